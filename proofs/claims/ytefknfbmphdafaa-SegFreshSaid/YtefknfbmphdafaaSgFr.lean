/- The law of the number behind all: the walk. -/
import Derived.Test.YtefknfbmphdafaaSgNm
import Derived.Lib.SlBytesConst
import Derived.Deep.CutRange
namespace Go.Proofs.Ytefknfbmphdafaa
namespace SgM
open Go Go.RowKit CrcM FrM
open Ds (Blk cell_lt)

theorem strs_nil (w : World) (v : Value) (F : List ByteArray) (h : StrsAt w v F) : ∃ A cap, v = .slice A F.length cap := by obtain ⟨A, cap, h1, _⟩ := h; exact ⟨A, cap, h1⟩
theorem mark_cell (w : World) (C : Array Value) (e : TypeId) (fr : Nat × Nat) (i : Nat) (u : Value) (h : C[i]? = some u) : (w.alloc (.cells C e fr)).cell? ⟨w.heap.size, i, none⟩ = some u := by
  have e : (w.alloc (.cells C e fr)).heap[w.heap.size]? = some (.cells C e fr) := by
    show (w.heap.push (.cells C e fr))[w.heap.size]? = _
    simp
  unfold World.cell?
  rw [e]
  simpa using h
theorem ba_ne {a b : ByteArray} (h : a ≠ b) : a.data.toList ≠ b.data.toList := fun e => h (ba_ext e)
set_option maxRecDepth 100000 in
set_option maxHeartbeats 8000000 in
theorem walk_SegFresh (w : World) (v : Value) (hv : ReadStrs w v) :
    Calls Try.prog 4 #[v] w fun e w' => e = .returned (.bool true) ∧ Below w.heap.size w w' := by
  obtain ⟨F, hF, _, hmx⟩ := hv
  have AL := Lib.hid alive_any
  have HF := Lib.hid hF
  obtain ⟨A0, cap0, rfl⟩ := strs_nil w v F hF
  clear hF
  unfold maxLen at hmx
  by_cases h60 : 60 < F.length
  · have h60' : (60 : Int) < (F.length : Int) := by omega
    go_enter Try.func4, Try.ntmps4
    go_wp2_with (go_at_call 11; refine (AL.out _).mono ?_; rintro e w1 ⟨rfl, hb1⟩)
    go_ret
    exact ⟨rfl, hb1⟩
  · have h60' : (F.length : Int) ≤ 60 := by omega
    have LP := Lib.hid (lay_any HF.out (show F.length ≤ 1000 by omega))
    obtain ⟨L, hL⟩ : ∃ L, L = uq (pkS F) := ⟨_, rfl⟩
    have hLu : Up L := by rw [hL]; exact uq_up _
    have hLo : ∀ x ∈ L, okS x = true := fun x hx => by rw [hL, mem_uq] at hx; exact pkS_ok hx
    have hLn : L.length ≤ 60 := by
      have h1 := uq_len (pkS F)
      have h2 := pkS_len F
      rw [hL]; omega
    unfold LayPost at LP
    rw [← hL] at LP
    have FO := Lib.hid (fresh_of hLu hLo)
    have hSn : (segsL L (snp L)).length ≤ 60 := Nat.le_trans (segs_len _ _) hLn
    obtain ⟨tn, htn⟩ : ∃ tn, tn = trN L (snp L) := ⟨_, rfl⟩
    rw [← htn] at LP
    generalize segsL L (snp L) = S at *
    generalize snp L = o at *
    clear hL hLu hLo hLn htn HF hmx L
    go_enter Try.func4, Try.ntmps4
    go_wp2_with fail
    refine LP.out.mono ?_
    rintro e w1 ⟨vs, vt, rfl, hs1, ht1, hb1⟩
    obtain ⟨A, cap, rfl, hc⟩ := SgRow.own hs1
    obtain ⟨B, bc, rfl⟩ := own_shape ht1
    have hNX := fresh_n FO.out
    obtain ⟨n, hn⟩ : ∃ n, n = nxt o.isSome (o.getD zS).n S := ⟨_, rfl⟩
    obtain ⟨m, hm⟩ : ∃ m, m = S.length := ⟨_, rfl⟩
    have HN := Lib.hid hn
    have HM := Lib.hid hm
    have HC := Lib.hid hc
    rw [← hn] at hNX
    have hbx : Below w.heap.size w w1 := hb1
    have HL0 := Lib.hid (show layC o (.slice A S.length cap) (.slice B (List.length tn) bc) = #[.int .u8 ((o.getD zS).k.toNat : Nat), .int .i64 (o.getD zS).n, .bool o.isSome, .slice A m cap, .slice B (List.length tn) bc] by rw [hm]; rfl)
    rw [HL0.out]
    obtain ⟨W, hW⟩ : ∃ W, W = w1.alloc (.cells #[.int .u8 ((o.getD zS).k.toNat : Nat), .int .i64 (o.getD zS).n, .bool o.isSome, .slice A m cap, .slice B (List.length tn) bc] 38) := ⟨_, rfl⟩
    have BL := Lib.hid (show Blk W w1.heap.size 38 #[.int .u8 ((o.getD zS).k.toNat : Nat), .int .i64 (o.getD zS).n, .bool o.isSome, .slice A m cap, .slice B (List.length tn) bc] by rw [hW]; exact Blk.new _ _ _)
    have HBW := Lib.hid (show Below w.heap.size w W by rw [hW]; exact hbx.alloc hbx.size _)
    have HNX := Lib.hid (next_any (o := o) (B := B) (nt := List.length tn) (ct := bc) (w := W) (vs := .slice A S.length cap) (show SgRow W (.slice A S.length cap) S by rw [hW]; exact (show SgRow w1 _ S from ⟨A, cap, rfl, hc⟩).below (below_box _ _)) FO.out.ok (by omega))
    have HC1 := Lib.hid (show S ≠ [] → ∃ g off, A = some ⟨g, off, none⟩ ∧ g < w1.heap.size ∧ ∀ k (h : k < S.length), W.cell? ⟨g, off + k * 2, none⟩ = some (.int .u8 (S[k].k.toNat : Nat)) ∧ W.cell? ⟨g, off + k * 2 + 1, none⟩ = some (.int .i64 S[k].n) from fun hne => by
      obtain ⟨g, off, e, hg, h⟩ := hc hne
      refine ⟨g, off, e, hg, fun k hk => ?_⟩
      rw [hW]
      exact ⟨((below_box w1 _).cell (by exact hg)).trans (h k hk).1, ((below_box w1 _).cell (by exact hg)).trans (h k hk).2⟩)
    have hw1W : w1.heap.size < W.heap.size := BL.out.lt
    rw [HL0.out, ← hn] at HNX
    clear hs1 ht1 hb1 hc hbx LP HL0 HC h60 h60' hn hm
    go_upto_region 4 with fail
    rw [← hW]
    clear hW
    obtain ⟨sk, hsk⟩ : ∃ sk : Int, sk = ((o.getD zS).k.toNat : Nat) := ⟨_, rfl⟩
    obtain ⟨sn, hsn⟩ : ∃ sn : Int, sn = (o.getD zS).n := ⟨_, rfl⟩
    obtain ⟨bo, hbo⟩ : ∃ bo, bo = o.isSome := ⟨_, rfl⟩
    have HSN := Lib.hid (show bo = true → (∀ x ∈ S, sn ≤ x.n) ∧ sn ≤ n from fun h => by
      rw [hbo] at h
      obtain ⟨t, rfl⟩ := Option.isSome_iff_exists.1 h
      rw [hsn, HN.out]
      exact ⟨fun x hx => FO.out.ge t rfl x hx, fresh_snap FO.out⟩)
    have HGT := Lib.hid (show ∀ x ∈ S, x.n < n from fun x hx => by rw [HN.out]; exact nxt_gt hx)
    rw [← hsk, ← hsn, ← hbo] at BL HNX
    generalize List.length tn = tl at *
    clear hsk hsn hbo
    have l0 : W.cell? ⟨w1.heap.size, 0, none⟩ = some (.int .u8 sk) := BL.out.cell 0
    have l1 : W.cell? ⟨w1.heap.size, 1, none⟩ = some (.int .i64 sn) := BL.out.cell 1
    have l2 : W.cell? ⟨w1.heap.size, 2, none⟩ = some (.bool bo) := BL.out.cell 2
    have l3 : W.cell? ⟨w1.heap.size, 3, none⟩ = some (.slice A m cap) := BL.out.cell 3
    have l4 : W.cell? ⟨w1.heap.size, 4, none⟩ = some (.slice B tl bc) := BL.out.cell 4
    go_wp2_with fail
    refine HNX.out.mono ?_
    rintro e w2 ⟨rfl, hb2⟩
    have l0 := (hb2.cell (p := ⟨w1.heap.size, 0, none⟩) hw1W).trans l0
    have l1 := (hb2.cell (p := ⟨w1.heap.size, 1, none⟩) hw1W).trans l1
    have l2 := (hb2.cell (p := ⟨w1.heap.size, 2, none⟩) hw1W).trans l2
    have l3 := (hb2.cell (p := ⟨w1.heap.size, 3, none⟩) hw1W).trans l3
    have HB2 := Lib.hid (keepW HBW.out hb2)
    have HBB := Lib.hid hb2
    have hW2 := hb2.size
    clear hb2 HNX
    have H0 := Lib.hid l0
    have H1 := Lib.hid l1
    have H2 := Lib.hid l2
    have H3 := Lib.hid l3
    go_wp2_with fail
    go_loopw [20] (fun i wr => ∃ k : Nat, k ≤ m ∧ i = .int .i64 (k : Nat) ∧ Below w2.heap.size w2 wr) (fun i _ => m - (intOf i).toNat)
    case atStart => exact ⟨0, Nat.zero_le _, rfl, Below.refl _ _⟩
    case round =>
      obtain ⟨k, hk, rfl, hb⟩ := hrel
      clear l0 l1 l2 l3 l4
      have q0 := (hb.cell (p := ⟨w1.heap.size, 0, none⟩) (by show w1.heap.size < w2.heap.size; omega)).trans H0.out
      have q1 := (hb.cell (p := ⟨w1.heap.size, 1, none⟩) (by show w1.heap.size < w2.heap.size; omega)).trans H1.out
      have q2 := (hb.cell (p := ⟨w1.heap.size, 2, none⟩) (by show w1.heap.size < w2.heap.size; omega)).trans H2.out
      have q3 := (hb.cell (p := ⟨w1.heap.size, 3, none⟩) (by show w1.heap.size < w2.heap.size; omega)).trans H3.out
      have hwr := hb.size
      have hLr : w1.heap.size < wr.heap.size := by omega
      by_cases hlk : k < m
      · have hlk' : k < S.length := by rw [← HM.out]; exact hlk
        obtain ⟨g, off, rfl, hg, hcl⟩ := HC1.out (by intro h; rw [h] at hlk'; simp at hlk')
        have hgr : g < wr.heap.size := by omega
        have hkp : ∀ {i : Nat} {u : Value}, W.cell? ⟨g, i, none⟩ = some u → wr.cell? ⟨g, i, none⟩ = some u := fun h => (hb.cell (by show g < w2.heap.size; omega)).trans ((HBB.out.cell (by show g < W.heap.size; omega)).trans h)
        have c0 := hkp (hcl k hlk').1
        have c1 := hkp (hcl k hlk').2
        have HKP := Lib.hid (show ∀ (i : Nat) (u : Value), W.cell? ⟨g, i, none⟩ = some u → wr.cell? ⟨g, i, none⟩ = some u from fun _ _ h => hkp h)
        have HCL := Lib.hid hcl
        clear hkp hcl
        have hgt := HGT.out S[k] (List.getElem_mem hlk')
        have hok := FO.out.ok S[k] (List.getElem_mem hlk')
        have hge := fun h => (HSN.out h).1 S[k] (List.getElem_mem hlk')
        have hnn := okS_iff.1 hok
        obtain ⟨x, hx⟩ : ∃ x, x = S[k] := ⟨_, rfl⟩
        obtain ⟨xk, hxk⟩ : ∃ xk : Int, xk = (x.k.toNat : Nat) := ⟨_, rfl⟩
        obtain ⟨xn, hxn⟩ : ∃ xn : Int, xn = x.n := ⟨_, rfl⟩
        have HXN := Lib.hid hxn
        have HXK := Lib.hid hxk
        have HOKx := Lib.hid (show okS x = true by rw [hx]; exact hok)
        have N1 := fun w => name_any x w (ok64 HOKx.out)
        have N2 := fun w => name_any ⟨115, n⟩ w (show In64 n by unfold In64; omega)
        have N3 := fun w => name_any ⟨114, n⟩ w (show In64 n by unfold In64; omega)
        have hne1 := str_ne _ _ (ba_ne (nm_ne (a := x) (b := ⟨115, n⟩) HOKx.out (show x.n ≠ n by rw [hx]; omega)))
        have hne2 := str_ne _ _ (ba_ne (nm_ne (a := x) (b := ⟨114, n⟩) HOKx.out (show x.n ≠ n by rw [hx]; omega)))
        unfold sgV at N1 N2 N3
        rw [← hxk, ← hxn] at N1
        rw [show (((⟨115, n⟩ : Sg).k.toNat : Nat) : Int) = 115 from rfl] at N2
        rw [show (((⟨114, n⟩ : Sg).k.toNat : Nat) : Int) = 114 from rfl] at N3
        generalize nmB x = X at N1 hne1 hne2
        generalize nmB ⟨115, n⟩ = Y1 at N2 hne1
        generalize nmB ⟨114, n⟩ = Y2 at N3 hne2
        replace N1 := Lib.hid N1
        replace N2 := Lib.hid N2
        replace N3 := Lib.hid N3
        rw [← hx, ← hxk] at c0
        rw [← hx, ← hxn] at c1
        rw [← hx, ← hxn] at hgt
        rw [← hx, ← hxn] at hge
        clear hok hnn hxk hxn
        obtain ⟨V, hV⟩ : ∃ V, V = wr.alloc (.cells #[.int .u8 xk, .int .i64 xn] 25) := ⟨_, rfl⟩
        have hbV : Below w2.heap.size w2 V := by rw [hV]; exact hb.alloc hb.size _
        have BX : Blk V wr.heap.size 25 #[.int .u8 xk, .int .i64 xn] := by rw [hV]; exact Blk.new _ _ _
        have HVb := Lib.hid (show Below wr.heap.size wr V by rw [hV]; exact below_box _ _)
        have x0 : V.cell? ⟨wr.heap.size, 0, none⟩ = some (.int .u8 xk) := BX.cell 0
        have x1 : V.cell? ⟨wr.heap.size, 1, none⟩ = some (.int .i64 xn) := BX.cell 1
        have p0 := (HVb.out.cell (p := ⟨w1.heap.size, 0, none⟩) hLr).trans q0
        have p1 := (HVb.out.cell (p := ⟨w1.heap.size, 1, none⟩) hLr).trans q1
        have p2 := (HVb.out.cell (p := ⟨w1.heap.size, 2, none⟩) hLr).trans q2
        have p3 := (HVb.out.cell (p := ⟨w1.heap.size, 3, none⟩) hLr).trans q3
        have hVr := BX.lt
        have hg1 : decide (n ≤ xn) = false := decide_eq_false (by omega)
        have hg2 : ¬ n ≤ xn := by omega
        have i0 : (0 : Int) ≤ (k : Int) := by omega
        have i1 : (k : Int) < (m : Int) := by omega
        go_upto_region 8 with fail
        rw [← hV]
        have HV := Lib.hid hV
        clear hV BX q0 q1 q2 q3 c0 c1
        go_cut [55] from 21 to 71 (fun c wx => c = .bool false ∧ Below V.heap.size V wx)
        case first =>
          cases k with
          | zero =>
            cases bo with
            | false =>
              go_wp2_with fail
              refine wp_region_noPanic ?_
              refine wp_region_held_drew (S := fun w' => Below V.heap.size V w' ∧ w'.cell? ⟨w1.heap.size, 0, none⟩ = some (.int .u8 sk) ∧ w'.cell? ⟨w1.heap.size, 1, none⟩ = some (.int .i64 sn) ∧ w'.cell? ⟨w1.heap.size, 2, none⟩ = some (.bool false) ∧ w'.cell? ⟨w1.heap.size, 3, none⟩ = some (.slice (some ⟨g, off, none⟩) m cap) ∧ w'.cell? ⟨wr.heap.size, 0, none⟩ = some (.int .u8 xk) ∧ w'.cell? ⟨wr.heap.size, 1, none⟩ = some (.int .i64 xn)) (by kernel_rfl) ⟨below_draw, p0, p1, p2, p3, x0, x1⟩ (fun hS => ?_)
              refine wpAnyH_take (i := 0) (v := ?_) rfl (by kernel_rfl) (by kernel_rfl) (by kernel_rfl) (fun _ _ _ h => h) (Or.inl ⟨by rfl, ?_⟩) hS ?_
              rotate_left
              · intro wx hSx
                try dsimp only at hSx
                go_simp
                try with_reducible rfl
              simp only [Act.put, List.getElem_toArray, List.getElem_cons_zero, List.setIfInBounds_toArray, List.set_cons_zero, List.set_cons_succ]
              refine wpAnyH_take (i := 1) (v := ?_) rfl (by kernel_rfl) (by kernel_rfl) (by kernel_rfl) (fun _ _ _ h => h) (Or.inl ⟨by rfl, ?_⟩) hS ?_
              rotate_left
              · intro wx hSx
                try dsimp only at hSx
                go_simp
                try with_reducible rfl
              simp only [Act.put, List.getElem_toArray, List.getElem_cons_zero, List.getElem_cons_succ, List.setIfInBounds_toArray, List.set_cons_zero, List.set_cons_succ]
              refine wpAnyH_take (i := 2) (v := ?_) rfl (by kernel_rfl) (by kernel_rfl) (by kernel_rfl) (fun _ _ _ h => h) (Or.inl ⟨by rfl, ?_⟩) hS ?_
              rotate_left
              · intro wx hSx
                try dsimp only at hSx
                go_simp
                try with_reducible rfl
              simp only [Act.put, List.getElem_toArray, List.getElem_cons_zero, List.getElem_cons_succ, List.setIfInBounds_toArray, List.set_cons_zero, List.set_cons_succ]
              refine wpAnyH_take (i := 3) (v := ?_) rfl (by kernel_rfl) (by kernel_rfl) (by kernel_rfl) (fun _ _ _ h => h) (Or.inl ⟨by rfl, ?_⟩) hS ?_
              rotate_left
              · intro wx hSx
                try dsimp only at hSx
                go_simp
                try with_reducible rfl
              simp only [Act.put, List.getElem_toArray, List.getElem_cons_zero, List.getElem_cons_succ, List.setIfInBounds_toArray, List.set_cons_zero, List.set_cons_succ]
              refine wpAnyH_take (i := 4) (v := ?_) rfl (by kernel_rfl) (by kernel_rfl) (by kernel_rfl) (fun _ _ _ h => h) (Or.inl ⟨by rfl, ?_⟩) hS ?_
              rotate_left
              · intro wx hSx
                try dsimp only at hSx
                go_simp
                try with_reducible rfl
              simp only [Act.put, List.getElem_toArray, List.getElem_cons_zero, List.getElem_cons_succ, List.setIfInBounds_toArray, List.set_cons_zero, List.set_cons_succ]
              refine wpAnyH_take (i := 5) (v := ?_) rfl (by kernel_rfl) (by kernel_rfl) (by kernel_rfl) (fun _ _ _ h => h) (Or.inl ⟨by rfl, ?_⟩) hS ?_
              rotate_left
              · intro wx hSx
                try dsimp only at hSx
                go_simp
                try with_reducible rfl
              simp only [Act.put, List.getElem_toArray, List.getElem_cons_zero, List.getElem_cons_succ, List.setIfInBounds_toArray, List.set_cons_zero, List.set_cons_succ]
              refine wpAnyH_take (i := 6) (v := ?_) rfl (by kernel_rfl) (by kernel_rfl) (by kernel_rfl) (fun _ _ _ h => h) (Or.inl ⟨by rfl, ?_⟩) hS ?_
              rotate_left
              · intro wx hSx
                try dsimp only at hSx
                go_simp
                try with_reducible rfl
              simp only [Act.put, List.getElem_toArray, List.getElem_cons_zero, List.getElem_cons_succ, List.setIfInBounds_toArray, List.set_cons_zero, List.set_cons_succ]
              refine wpAnyH_take (i := 7) (v := ?_) rfl (by kernel_rfl) (by kernel_rfl) (by kernel_rfl) (fun _ _ _ h => h) (Or.inl ⟨by rfl, ?_⟩) hS ?_
              rotate_left
              · intro wx hSx
                try dsimp only at hSx
                go_simp
                try with_reducible rfl
              simp only [Act.put, List.getElem_toArray, List.getElem_cons_zero, List.getElem_cons_succ, List.setIfInBounds_toArray, List.set_cons_zero, List.set_cons_succ]
              refine wpAnyH_take (i := 8) (v := undef) rfl (by kernel_rfl) (by kernel_rfl) (by kernel_rfl) (fun _ _ _ h => h) (Or.inr ⟨by rfl, rfl⟩) hS ?_
              simp only [Act.put, List.getElem_toArray, List.getElem_cons_zero, List.getElem_cons_succ, List.setIfInBounds_toArray, List.set_cons_zero, List.set_cons_succ]
              refine wpAnyH_take (i := 9) (v := undef) rfl (by kernel_rfl) (by kernel_rfl) (by kernel_rfl) (fun _ _ _ h => h) (Or.inr ⟨by rfl, rfl⟩) hS ?_
              simp only [Act.put, List.getElem_toArray, List.getElem_cons_zero, List.getElem_cons_succ, List.setIfInBounds_toArray, List.set_cons_zero, List.set_cons_succ]
              refine wpAnyH_take (i := 10) (v := undef) rfl (by kernel_rfl) (by kernel_rfl) (by kernel_rfl) (fun _ _ _ h => h) (Or.inr ⟨by rfl, rfl⟩) hS ?_
              simp only [Act.put, List.getElem_toArray, List.getElem_cons_zero, List.getElem_cons_succ, List.setIfInBounds_toArray, List.set_cons_zero, List.set_cons_succ]
              refine wpAnyH_take (i := 11) (v := undef) rfl (by kernel_rfl) (by kernel_rfl) (by kernel_rfl) (fun _ _ _ h => h) (Or.inr ⟨by rfl, rfl⟩) hS ?_
              simp only [Act.put, List.getElem_toArray, List.getElem_cons_zero, List.getElem_cons_succ, List.setIfInBounds_toArray, List.set_cons_zero, List.set_cons_succ]
              refine wpAnyH_take (i := 12) (v := undef) rfl (by kernel_rfl) (by kernel_rfl) (by kernel_rfl) (fun _ _ _ h => h) (Or.inr ⟨by rfl, rfl⟩) hS ?_
              simp only [Act.put, List.getElem_toArray, List.getElem_cons_zero, List.getElem_cons_succ, List.setIfInBounds_toArray, List.set_cons_zero, List.set_cons_succ]
              refine wpAnyH_take (i := 13) (v := undef) rfl (by kernel_rfl) (by kernel_rfl) (by kernel_rfl) (fun _ _ _ h => h) (Or.inr ⟨by rfl, rfl⟩) hS ?_
              simp only [Act.put, List.getElem_toArray, List.getElem_cons_zero, List.getElem_cons_succ, List.setIfInBounds_toArray, List.set_cons_zero, List.set_cons_succ]
              refine wpAnyH_take (i := 14) (v := undef) rfl (by kernel_rfl) (by kernel_rfl) (by kernel_rfl) (fun _ _ _ h => h) (Or.inr ⟨by rfl, rfl⟩) hS ?_
              simp only [Act.put, List.getElem_toArray, List.getElem_cons_zero, List.getElem_cons_succ, List.setIfInBounds_toArray, List.set_cons_zero, List.set_cons_succ]
              refine wpAnyH_take (i := 15) (v := undef) rfl (by kernel_rfl) (by kernel_rfl) (by kernel_rfl) (fun _ _ _ h => h) (Or.inr ⟨by rfl, rfl⟩) hS ?_
              simp only [Act.put, List.getElem_toArray, List.getElem_cons_zero, List.getElem_cons_succ, List.setIfInBounds_toArray, List.set_cons_zero, List.set_cons_succ]
              refine wpAnyH_take (i := 16) (v := undef) rfl (by kernel_rfl) (by kernel_rfl) (by kernel_rfl) (fun _ _ _ h => h) (Or.inr ⟨by rfl, rfl⟩) hS ?_
              simp only [Act.put, List.getElem_toArray, List.getElem_cons_zero, List.getElem_cons_succ, List.setIfInBounds_toArray, List.set_cons_zero, List.set_cons_succ]
              refine wpAnyH_take (i := 17) (v := ?_) rfl (by kernel_rfl) (by kernel_rfl) (by kernel_rfl) (fun _ _ _ h => h) (Or.inl ⟨by rfl, ?_⟩) hS ?_
              rotate_left
              · intro wx hSx
                try dsimp only at hSx
                go_simp
                try with_reducible rfl
              simp only [Act.put, List.getElem_toArray, List.getElem_cons_zero, List.getElem_cons_succ, List.setIfInBounds_toArray, List.set_cons_zero, List.set_cons_succ]
              refine wpAnyH_take (i := 18) (v := ?_) rfl (by kernel_rfl) (by kernel_rfl) (by kernel_rfl) (fun _ _ _ h => h) (Or.inl ⟨by rfl, ?_⟩) hS ?_
              rotate_left
              · intro wx hSx
                try dsimp only at hSx
                go_simp
                try with_reducible rfl
              simp only [Act.put, List.getElem_toArray, List.getElem_cons_zero, List.getElem_cons_succ, List.setIfInBounds_toArray, List.set_cons_zero, List.set_cons_succ]
              refine wpAnyH_take (i := 19) (v := ?_) rfl (by kernel_rfl) (by kernel_rfl) (by kernel_rfl) (fun _ _ _ h => h) (Or.inl ⟨by rfl, ?_⟩) hS ?_
              rotate_left
              · intro wx hSx
                try dsimp only at hSx
                go_simp
                try with_reducible rfl
              simp only [Act.put, List.getElem_toArray, List.getElem_cons_zero, List.getElem_cons_succ, List.setIfInBounds_toArray, List.set_cons_zero, List.set_cons_succ]
              refine wpAnyH_take (i := 20) (v := ?_) rfl (by kernel_rfl) (by kernel_rfl) (by kernel_rfl) (fun _ _ _ h => h) (Or.inl ⟨by rfl, ?_⟩) hS ?_
              rotate_left
              · intro wx hSx
                try dsimp only at hSx
                go_simp
                try with_reducible rfl
              simp only [Act.put, List.getElem_toArray, List.getElem_cons_zero, List.getElem_cons_succ, List.setIfInBounds_toArray, List.set_cons_zero, List.set_cons_succ]
              refine wpAnyH_take (i := 21) (v := ?_) rfl (by kernel_rfl) (by kernel_rfl) (by kernel_rfl) (fun _ _ _ h => h) (Or.inl ⟨by rfl, ?_⟩) hS ?_
              rotate_left
              · intro wx hSx
                try dsimp only at hSx
                go_simp
                try with_reducible rfl
              simp only [Act.put, List.getElem_toArray, List.getElem_cons_zero, List.getElem_cons_succ, List.setIfInBounds_toArray, List.set_cons_zero, List.set_cons_succ]
              refine wpAnyH_take (i := 22) (v := ?_) rfl (by kernel_rfl) (by kernel_rfl) (by kernel_rfl) (fun _ _ _ h => h) (Or.inl ⟨by rfl, ?_⟩) hS ?_
              rotate_left
              · intro wx hSx
                try dsimp only at hSx
                go_simp
                try with_reducible rfl
              simp only [Act.put, List.getElem_toArray, List.getElem_cons_zero, List.getElem_cons_succ, List.setIfInBounds_toArray, List.set_cons_zero, List.set_cons_succ]
              refine wpAnyH_take (i := 23) (v := undef) rfl (by kernel_rfl) (by kernel_rfl) (by kernel_rfl) (fun _ _ _ h => h) (Or.inr ⟨by rfl, rfl⟩) hS ?_
              simp only [Act.put, List.getElem_toArray, List.getElem_cons_zero, List.getElem_cons_succ, List.setIfInBounds_toArray, List.set_cons_zero, List.set_cons_succ]
              refine wpAnyH_take (i := 24) (v := undef) rfl (by kernel_rfl) (by kernel_rfl) (by kernel_rfl) (fun _ _ _ h => h) (Or.inr ⟨by rfl, rfl⟩) hS ?_
              simp only [Act.put, List.getElem_toArray, List.getElem_cons_zero, List.getElem_cons_succ, List.setIfInBounds_toArray, List.set_cons_zero, List.set_cons_succ]
              refine wpAnyH_take (i := 25) (v := undef) rfl (by kernel_rfl) (by kernel_rfl) (by kernel_rfl) (fun _ _ _ h => h) (Or.inr ⟨by rfl, rfl⟩) hS ?_
              simp only [Act.put, List.getElem_toArray, List.getElem_cons_zero, List.getElem_cons_succ, List.setIfInBounds_toArray, List.set_cons_zero, List.set_cons_succ]
              refine wpAnyH_take (i := 26) (v := undef) rfl (by kernel_rfl) (by kernel_rfl) (by kernel_rfl) (fun _ _ _ h => h) (Or.inr ⟨by rfl, rfl⟩) hS ?_
              simp only [Act.put, List.getElem_toArray, List.getElem_cons_zero, List.getElem_cons_succ, List.setIfInBounds_toArray, List.set_cons_zero, List.set_cons_succ]
              refine wpAnyH_take (i := 27) (v := undef) rfl (by kernel_rfl) (by kernel_rfl) (by kernel_rfl) (fun _ _ _ h => h) (Or.inr ⟨by rfl, rfl⟩) hS ?_
              simp only [Act.put, List.getElem_toArray, List.getElem_cons_zero, List.getElem_cons_succ, List.setIfInBounds_toArray, List.set_cons_zero, List.set_cons_succ]
              refine wpAnyH_take (i := 28) (v := undef) rfl (by kernel_rfl) (by kernel_rfl) (by kernel_rfl) (fun _ _ _ h => h) (Or.inr ⟨by rfl, rfl⟩) hS ?_
              simp only [Act.put, List.getElem_toArray, List.getElem_cons_zero, List.getElem_cons_succ, List.setIfInBounds_toArray, List.set_cons_zero, List.set_cons_succ]
              refine wpAnyH_take (i := 29) (v := ?_) rfl (by kernel_rfl) (by kernel_rfl) (by kernel_rfl) (fun _ _ _ h => h) (Or.inl ⟨by rfl, ?_⟩) hS ?_
              rotate_left
              · intro wx hSx
                try dsimp only at hSx
                go_simp
                try with_reducible rfl
              simp only [Act.put, List.getElem_toArray, List.getElem_cons_zero, List.getElem_cons_succ, List.setIfInBounds_toArray, List.set_cons_zero, List.set_cons_succ]
              refine wpAnyH_take (i := 30) (v := ?_) rfl (by kernel_rfl) (by kernel_rfl) (by kernel_rfl) (fun _ _ _ h => h) (Or.inl ⟨by rfl, ?_⟩) hS ?_
              rotate_left
              · intro wx hSx
                try dsimp only at hSx
                go_simp
                try with_reducible rfl
              simp only [Act.put, List.getElem_toArray, List.getElem_cons_zero, List.getElem_cons_succ, List.setIfInBounds_toArray, List.set_cons_zero, List.set_cons_succ]
              refine wpAnyH_done (by kernel_rfl) ?_ _
              refine NoPanic.normal ?_
              have hbA2 := hS.1
              go_wp2_with fail
              go_meet
              case rel => exact ⟨rfl, hbA2⟩
            | true =>
              have hge' := hge rfl
              have hg3 : decide (xn < sn) = false := decide_eq_false (by omega)
              have hg4 : ¬ xn < sn := by omega
              go_wp2_with fail
              refine wp_region_noPanic ?_
              refine wp_region_held_drew (S := fun w' => Below V.heap.size V w' ∧ w'.cell? ⟨w1.heap.size, 0, none⟩ = some (.int .u8 sk) ∧ w'.cell? ⟨w1.heap.size, 1, none⟩ = some (.int .i64 sn) ∧ w'.cell? ⟨w1.heap.size, 2, none⟩ = some (.bool true) ∧ w'.cell? ⟨w1.heap.size, 3, none⟩ = some (.slice (some ⟨g, off, none⟩) m cap) ∧ w'.cell? ⟨wr.heap.size, 0, none⟩ = some (.int .u8 xk) ∧ w'.cell? ⟨wr.heap.size, 1, none⟩ = some (.int .i64 xn)) (by kernel_rfl) ⟨below_draw, p0, p1, p2, p3, x0, x1⟩ (fun hS => ?_)
              refine wpAnyH_take (i := 0) (v := ?_) rfl (by kernel_rfl) (by kernel_rfl) (by kernel_rfl) (fun _ _ _ h => h) (Or.inl ⟨by rfl, ?_⟩) hS ?_
              rotate_left
              · intro wx hSx
                try dsimp only at hSx
                go_simp
                try with_reducible rfl
              simp only [Act.put, List.getElem_toArray, List.getElem_cons_zero, List.setIfInBounds_toArray, List.set_cons_zero, List.set_cons_succ]
              refine wpAnyH_take (i := 1) (v := ?_) rfl (by kernel_rfl) (by kernel_rfl) (by kernel_rfl) (fun _ _ _ h => h) (Or.inl ⟨by rfl, ?_⟩) hS ?_
              rotate_left
              · intro wx hSx
                try dsimp only at hSx
                go_simp
                try with_reducible rfl
              simp only [Act.put, List.getElem_toArray, List.getElem_cons_zero, List.getElem_cons_succ, List.setIfInBounds_toArray, List.set_cons_zero, List.set_cons_succ]
              refine wpAnyH_take (i := 2) (v := ?_) rfl (by kernel_rfl) (by kernel_rfl) (by kernel_rfl) (fun _ _ _ h => h) (Or.inl ⟨by rfl, ?_⟩) hS ?_
              rotate_left
              · intro wx hSx
                try dsimp only at hSx
                go_simp
                try with_reducible rfl
              simp only [Act.put, List.getElem_toArray, List.getElem_cons_zero, List.getElem_cons_succ, List.setIfInBounds_toArray, List.set_cons_zero, List.set_cons_succ]
              refine wpAnyH_take (i := 3) (v := ?_) rfl (by kernel_rfl) (by kernel_rfl) (by kernel_rfl) (fun _ _ _ h => h) (Or.inl ⟨by rfl, ?_⟩) hS ?_
              rotate_left
              · intro wx hSx
                try dsimp only at hSx
                go_simp
                try with_reducible rfl
              simp only [Act.put, List.getElem_toArray, List.getElem_cons_zero, List.getElem_cons_succ, List.setIfInBounds_toArray, List.set_cons_zero, List.set_cons_succ]
              refine wpAnyH_take (i := 4) (v := ?_) rfl (by kernel_rfl) (by kernel_rfl) (by kernel_rfl) (fun _ _ _ h => h) (Or.inl ⟨by rfl, ?_⟩) hS ?_
              rotate_left
              · intro wx hSx
                try dsimp only at hSx
                go_simp
                try with_reducible rfl
              simp only [Act.put, List.getElem_toArray, List.getElem_cons_zero, List.getElem_cons_succ, List.setIfInBounds_toArray, List.set_cons_zero, List.set_cons_succ]
              refine wpAnyH_take (i := 5) (v := ?_) rfl (by kernel_rfl) (by kernel_rfl) (by kernel_rfl) (fun _ _ _ h => h) (Or.inl ⟨by rfl, ?_⟩) hS ?_
              rotate_left
              · intro wx hSx
                try dsimp only at hSx
                go_simp
                try with_reducible rfl
              simp only [Act.put, List.getElem_toArray, List.getElem_cons_zero, List.getElem_cons_succ, List.setIfInBounds_toArray, List.set_cons_zero, List.set_cons_succ]
              refine wpAnyH_take (i := 6) (v := ?_) rfl (by kernel_rfl) (by kernel_rfl) (by kernel_rfl) (fun _ _ _ h => h) (Or.inl ⟨by rfl, ?_⟩) hS ?_
              rotate_left
              · intro wx hSx
                try dsimp only at hSx
                go_simp
                try with_reducible rfl
              simp only [Act.put, List.getElem_toArray, List.getElem_cons_zero, List.getElem_cons_succ, List.setIfInBounds_toArray, List.set_cons_zero, List.set_cons_succ]
              refine wpAnyH_take (i := 7) (v := ?_) rfl (by kernel_rfl) (by kernel_rfl) (by kernel_rfl) (fun _ _ _ h => h) (Or.inl ⟨by rfl, ?_⟩) hS ?_
              rotate_left
              · intro wx hSx
                try dsimp only at hSx
                go_simp
                try with_reducible rfl
              simp only [Act.put, List.getElem_toArray, List.getElem_cons_zero, List.getElem_cons_succ, List.setIfInBounds_toArray, List.set_cons_zero, List.set_cons_succ]
              refine wpAnyH_take (i := 8) (v := undef) rfl (by kernel_rfl) (by kernel_rfl) (by kernel_rfl) (fun _ _ _ h => h) (Or.inr ⟨by rfl, rfl⟩) hS ?_
              simp only [Act.put, List.getElem_toArray, List.getElem_cons_zero, List.getElem_cons_succ, List.setIfInBounds_toArray, List.set_cons_zero, List.set_cons_succ]
              refine wpAnyH_take (i := 9) (v := undef) rfl (by kernel_rfl) (by kernel_rfl) (by kernel_rfl) (fun _ _ _ h => h) (Or.inr ⟨by rfl, rfl⟩) hS ?_
              simp only [Act.put, List.getElem_toArray, List.getElem_cons_zero, List.getElem_cons_succ, List.setIfInBounds_toArray, List.set_cons_zero, List.set_cons_succ]
              refine wpAnyH_take (i := 10) (v := undef) rfl (by kernel_rfl) (by kernel_rfl) (by kernel_rfl) (fun _ _ _ h => h) (Or.inr ⟨by rfl, rfl⟩) hS ?_
              simp only [Act.put, List.getElem_toArray, List.getElem_cons_zero, List.getElem_cons_succ, List.setIfInBounds_toArray, List.set_cons_zero, List.set_cons_succ]
              refine wpAnyH_take (i := 11) (v := undef) rfl (by kernel_rfl) (by kernel_rfl) (by kernel_rfl) (fun _ _ _ h => h) (Or.inr ⟨by rfl, rfl⟩) hS ?_
              simp only [Act.put, List.getElem_toArray, List.getElem_cons_zero, List.getElem_cons_succ, List.setIfInBounds_toArray, List.set_cons_zero, List.set_cons_succ]
              refine wpAnyH_take (i := 12) (v := undef) rfl (by kernel_rfl) (by kernel_rfl) (by kernel_rfl) (fun _ _ _ h => h) (Or.inr ⟨by rfl, rfl⟩) hS ?_
              simp only [Act.put, List.getElem_toArray, List.getElem_cons_zero, List.getElem_cons_succ, List.setIfInBounds_toArray, List.set_cons_zero, List.set_cons_succ]
              refine wpAnyH_take (i := 13) (v := undef) rfl (by kernel_rfl) (by kernel_rfl) (by kernel_rfl) (fun _ _ _ h => h) (Or.inr ⟨by rfl, rfl⟩) hS ?_
              simp only [Act.put, List.getElem_toArray, List.getElem_cons_zero, List.getElem_cons_succ, List.setIfInBounds_toArray, List.set_cons_zero, List.set_cons_succ]
              refine wpAnyH_take (i := 14) (v := undef) rfl (by kernel_rfl) (by kernel_rfl) (by kernel_rfl) (fun _ _ _ h => h) (Or.inr ⟨by rfl, rfl⟩) hS ?_
              simp only [Act.put, List.getElem_toArray, List.getElem_cons_zero, List.getElem_cons_succ, List.setIfInBounds_toArray, List.set_cons_zero, List.set_cons_succ]
              refine wpAnyH_take (i := 15) (v := undef) rfl (by kernel_rfl) (by kernel_rfl) (by kernel_rfl) (fun _ _ _ h => h) (Or.inr ⟨by rfl, rfl⟩) hS ?_
              simp only [Act.put, List.getElem_toArray, List.getElem_cons_zero, List.getElem_cons_succ, List.setIfInBounds_toArray, List.set_cons_zero, List.set_cons_succ]
              refine wpAnyH_take (i := 16) (v := undef) rfl (by kernel_rfl) (by kernel_rfl) (by kernel_rfl) (fun _ _ _ h => h) (Or.inr ⟨by rfl, rfl⟩) hS ?_
              simp only [Act.put, List.getElem_toArray, List.getElem_cons_zero, List.getElem_cons_succ, List.setIfInBounds_toArray, List.set_cons_zero, List.set_cons_succ]
              refine wpAnyH_take (i := 17) (v := ?_) rfl (by kernel_rfl) (by kernel_rfl) (by kernel_rfl) (fun _ _ _ h => h) (Or.inl ⟨by rfl, ?_⟩) hS ?_
              rotate_left
              · intro wx hSx
                try dsimp only at hSx
                go_simp
                try with_reducible rfl
              simp only [Act.put, List.getElem_toArray, List.getElem_cons_zero, List.getElem_cons_succ, List.setIfInBounds_toArray, List.set_cons_zero, List.set_cons_succ]
              refine wpAnyH_take (i := 18) (v := ?_) rfl (by kernel_rfl) (by kernel_rfl) (by kernel_rfl) (fun _ _ _ h => h) (Or.inl ⟨by rfl, ?_⟩) hS ?_
              rotate_left
              · intro wx hSx
                try dsimp only at hSx
                go_simp
                try with_reducible rfl
              simp only [Act.put, List.getElem_toArray, List.getElem_cons_zero, List.getElem_cons_succ, List.setIfInBounds_toArray, List.set_cons_zero, List.set_cons_succ]
              refine wpAnyH_take (i := 19) (v := ?_) rfl (by kernel_rfl) (by kernel_rfl) (by kernel_rfl) (fun _ _ _ h => h) (Or.inl ⟨by rfl, ?_⟩) hS ?_
              rotate_left
              · intro wx hSx
                try dsimp only at hSx
                go_simp
                try with_reducible rfl
              simp only [Act.put, List.getElem_toArray, List.getElem_cons_zero, List.getElem_cons_succ, List.setIfInBounds_toArray, List.set_cons_zero, List.set_cons_succ]
              refine wpAnyH_take (i := 20) (v := ?_) rfl (by kernel_rfl) (by kernel_rfl) (by kernel_rfl) (fun _ _ _ h => h) (Or.inl ⟨by rfl, ?_⟩) hS ?_
              rotate_left
              · intro wx hSx
                try dsimp only at hSx
                go_simp
                try with_reducible rfl
              simp only [Act.put, List.getElem_toArray, List.getElem_cons_zero, List.getElem_cons_succ, List.setIfInBounds_toArray, List.set_cons_zero, List.set_cons_succ]
              refine wpAnyH_take (i := 21) (v := ?_) rfl (by kernel_rfl) (by kernel_rfl) (by kernel_rfl) (fun _ _ _ h => h) (Or.inl ⟨by rfl, ?_⟩) hS ?_
              rotate_left
              · intro wx hSx
                try dsimp only at hSx
                go_simp
                try with_reducible rfl
              simp only [Act.put, List.getElem_toArray, List.getElem_cons_zero, List.getElem_cons_succ, List.setIfInBounds_toArray, List.set_cons_zero, List.set_cons_succ]
              refine wpAnyH_take (i := 22) (v := ?_) rfl (by kernel_rfl) (by kernel_rfl) (by kernel_rfl) (fun _ _ _ h => h) (Or.inl ⟨by rfl, ?_⟩) hS ?_
              rotate_left
              · intro wx hSx
                try dsimp only at hSx
                go_simp
                try with_reducible rfl
              simp only [Act.put, List.getElem_toArray, List.getElem_cons_zero, List.getElem_cons_succ, List.setIfInBounds_toArray, List.set_cons_zero, List.set_cons_succ]
              refine wpAnyH_take (i := 23) (v := ?_) rfl (by kernel_rfl) (by kernel_rfl) (by kernel_rfl) (fun _ _ _ h => h) (Or.inl ⟨by rfl, ?_⟩) hS ?_
              rotate_left
              · intro wx hSx
                try dsimp only at hSx
                go_simp
                try with_reducible rfl
              simp only [Act.put, List.getElem_toArray, List.getElem_cons_zero, List.getElem_cons_succ, List.setIfInBounds_toArray, List.set_cons_zero, List.set_cons_succ]
              refine wpAnyH_take (i := 24) (v := ?_) rfl (by kernel_rfl) (by kernel_rfl) (by kernel_rfl) (fun _ _ _ h => h) (Or.inl ⟨by rfl, ?_⟩) hS ?_
              rotate_left
              · intro wx hSx
                try dsimp only at hSx
                go_simp
                try with_reducible rfl
              simp only [Act.put, List.getElem_toArray, List.getElem_cons_zero, List.getElem_cons_succ, List.setIfInBounds_toArray, List.set_cons_zero, List.set_cons_succ]
              refine wpAnyH_take (i := 25) (v := ?_) rfl (by kernel_rfl) (by kernel_rfl) (by kernel_rfl) (fun _ _ _ h => h) (Or.inl ⟨by rfl, ?_⟩) hS ?_
              rotate_left
              · intro wx hSx
                try dsimp only at hSx
                go_simp
                try with_reducible rfl
              simp only [Act.put, List.getElem_toArray, List.getElem_cons_zero, List.getElem_cons_succ, List.setIfInBounds_toArray, List.set_cons_zero, List.set_cons_succ]
              refine wpAnyH_take (i := 26) (v := ?_) rfl (by kernel_rfl) (by kernel_rfl) (by kernel_rfl) (fun _ _ _ h => h) (Or.inl ⟨by rfl, ?_⟩) hS ?_
              rotate_left
              · intro wx hSx
                try dsimp only at hSx
                go_simp
                try with_reducible rfl
              simp only [Act.put, List.getElem_toArray, List.getElem_cons_zero, List.getElem_cons_succ, List.setIfInBounds_toArray, List.set_cons_zero, List.set_cons_succ]
              refine wpAnyH_take (i := 27) (v := ?_) rfl (by kernel_rfl) (by kernel_rfl) (by kernel_rfl) (fun _ _ _ h => h) (Or.inl ⟨by rfl, ?_⟩) hS ?_
              rotate_left
              · intro wx hSx
                try dsimp only at hSx
                go_simp
                try with_reducible rfl
              simp only [Act.put, List.getElem_toArray, List.getElem_cons_zero, List.getElem_cons_succ, List.setIfInBounds_toArray, List.set_cons_zero, List.set_cons_succ]
              refine wpAnyH_take (i := 28) (v := ?_) rfl (by kernel_rfl) (by kernel_rfl) (by kernel_rfl) (fun _ _ _ h => h) (Or.inl ⟨by rfl, ?_⟩) hS ?_
              rotate_left
              · intro wx hSx
                try dsimp only at hSx
                go_simp
                try with_reducible rfl
              simp only [Act.put, List.getElem_toArray, List.getElem_cons_zero, List.getElem_cons_succ, List.setIfInBounds_toArray, List.set_cons_zero, List.set_cons_succ]
              refine wpAnyH_take (i := 29) (v := ?_) rfl (by kernel_rfl) (by kernel_rfl) (by kernel_rfl) (fun _ _ _ h => h) (Or.inl ⟨by rfl, ?_⟩) hS ?_
              rotate_left
              · intro wx hSx
                try dsimp only at hSx
                go_simp
                try with_reducible rfl
              simp only [Act.put, List.getElem_toArray, List.getElem_cons_zero, List.getElem_cons_succ, List.setIfInBounds_toArray, List.set_cons_zero, List.set_cons_succ]
              refine wpAnyH_take (i := 30) (v := ?_) rfl (by kernel_rfl) (by kernel_rfl) (by kernel_rfl) (fun _ _ _ h => h) (Or.inl ⟨by rfl, ?_⟩) hS ?_
              rotate_left
              · intro wx hSx
                try dsimp only at hSx
                go_simp
                try with_reducible rfl
              simp only [Act.put, List.getElem_toArray, List.getElem_cons_zero, List.getElem_cons_succ, List.setIfInBounds_toArray, List.set_cons_zero, List.set_cons_succ]
              refine wpAnyH_done (by kernel_rfl) ?_ _
              refine NoPanic.normal ?_
              have hbA2 := hS.1
              go_wp2_with fail
              go_meet
              case rel => exact ⟨rfl, hbA2⟩
          | succ j =>
            have hlj : j < S.length := by omega
            have e0 := (HVb.out.cell (p := ⟨g, off + j * 2, none⟩) (by exact hgr)).trans (HKP.out _ _ (HCL.out j hlj).1)
            have e1 := (HVb.out.cell (p := ⟨g, off + j * 2 + 1, none⟩) (by exact hgr)).trans (HKP.out _ _ (HCL.out j hlj).2)
            have CM := fun w => cmp_below S[j] S[j + 1] w
            rw [FO.out.up j hlk', ← hx] at CM
            unfold sgV at CM
            rw [← HXK.out, ← HXN.out] at CM
            generalize S[j] = z at *
            obtain ⟨zk, hzk⟩ : ∃ zk : Int, zk = (z.k.toNat : Nat) := ⟨_, rfl⟩
            obtain ⟨zn, hzn⟩ : ∃ zn : Int, zn = z.n := ⟨_, rfl⟩
            rw [← hzk, ← hzn] at CM
            rw [← hzk] at e0
            rw [← hzn] at e1
            replace CM := Lib.hid CM
            have hkj : (0 : Int) < ((j + 1 : Nat) : Int) := by omega
            have hkj2 : (0 : Int) < (j : Int) + 1 := by omega
            have hkj3 : decide ((0 : Int) < ((j + 1 : Nat) : Int)) = true := decide_eq_true hkj
            have hkj4 : decide ((0 : Int) < (j : Int) + 1) = true := decide_eq_true hkj2
            have hwj : IntKind.i64.wrap (((j + 1 : Nat) : Int) - 1) = (j : Int) := by rw [IntWalk.i64_in _ (by omega)]; omega
            have hwj2 : IntKind.i64.wrap ((j : Int) + 1 - 1) = (j : Int) := by rw [IntWalk.i64_in _ (by omega)]; omega
            have hwj3 : IntKind.i64.wrap (j : Int) = (j : Int) := IntWalk.i64_in _ (by omega)
            have j0 : (0 : Int) ≤ (j : Int) := by omega
            have j1 : (j : Int) < (m : Int) := by omega
            have hgV : g < V.heap.size := Nat.lt_of_lt_of_le hgr HVb.out.size
            clear hzk hzn
            cases bo with
            | false =>
              go_wp2_with fail
              refine wp_region_noPanic ?_
              refine wp_region_held_drew (S := fun w' => Below V.heap.size V w' ∧ w'.cell? ⟨w1.heap.size, 0, none⟩ = some (.int .u8 sk) ∧ w'.cell? ⟨w1.heap.size, 1, none⟩ = some (.int .i64 sn) ∧ w'.cell? ⟨w1.heap.size, 2, none⟩ = some (.bool false) ∧ w'.cell? ⟨w1.heap.size, 3, none⟩ = some (.slice (some ⟨g, off, none⟩) m cap) ∧ w'.cell? ⟨wr.heap.size, 0, none⟩ = some (.int .u8 xk) ∧ w'.cell? ⟨wr.heap.size, 1, none⟩ = some (.int .i64 xn) ∧ w'.cell? ⟨g, off + j * 2, none⟩ = some (.int .u8 zk) ∧ w'.cell? ⟨g, off + j * 2 + 1, none⟩ = some (.int .i64 zn)) (by kernel_rfl) ⟨below_draw, p0, p1, p2, p3, x0, x1, e0, e1⟩ (fun hS => ?_)
              refine wpAnyH_take (i := 0) (v := ?_) rfl (by kernel_rfl) (by kernel_rfl) (by kernel_rfl) (fun _ _ _ h => h) (Or.inl ⟨by rfl, ?_⟩) hS ?_
              rotate_left
              · intro wx hSx
                try dsimp only at hSx
                go_simp
                try with_reducible rfl
              simp only [Act.put, List.getElem_toArray, List.getElem_cons_zero, List.setIfInBounds_toArray, List.set_cons_zero, List.set_cons_succ]
              refine wpAnyH_take (i := 1) (v := ?_) rfl (by kernel_rfl) (by kernel_rfl) (by kernel_rfl) (fun _ _ _ h => h) (Or.inl ⟨by rfl, ?_⟩) hS ?_
              rotate_left
              · intro wx hSx
                try dsimp only at hSx
                go_simp
                try with_reducible rfl
              simp only [Act.put, List.getElem_toArray, List.getElem_cons_zero, List.getElem_cons_succ, List.setIfInBounds_toArray, List.set_cons_zero, List.set_cons_succ]
              refine wpAnyH_take (i := 2) (v := ?_) rfl (by kernel_rfl) (by kernel_rfl) (by kernel_rfl) (fun _ _ _ h => h) (Or.inl ⟨by rfl, ?_⟩) hS ?_
              rotate_left
              · intro wx hSx
                try dsimp only at hSx
                go_simp
                try with_reducible rfl
              simp only [Act.put, List.getElem_toArray, List.getElem_cons_zero, List.getElem_cons_succ, List.setIfInBounds_toArray, List.set_cons_zero, List.set_cons_succ]
              refine wpAnyH_take (i := 3) (v := ?_) rfl (by kernel_rfl) (by kernel_rfl) (by kernel_rfl) (fun _ _ _ h => h) (Or.inl ⟨by rfl, ?_⟩) hS ?_
              rotate_left
              · intro wx hSx
                try dsimp only at hSx
                go_simp
                try with_reducible rfl
              simp only [Act.put, List.getElem_toArray, List.getElem_cons_zero, List.getElem_cons_succ, List.setIfInBounds_toArray, List.set_cons_zero, List.set_cons_succ]
              refine wpAnyH_take (i := 4) (v := ?_) rfl (by kernel_rfl) (by kernel_rfl) (by kernel_rfl) (fun _ _ _ h => h) (Or.inl ⟨by rfl, ?_⟩) hS ?_
              rotate_left
              · intro wx hSx
                try dsimp only at hSx
                go_simp
                try with_reducible rfl
              simp only [Act.put, List.getElem_toArray, List.getElem_cons_zero, List.getElem_cons_succ, List.setIfInBounds_toArray, List.set_cons_zero, List.set_cons_succ]
              refine wpAnyH_take (i := 5) (v := ?_) rfl (by kernel_rfl) (by kernel_rfl) (by kernel_rfl) (fun _ _ _ h => h) (Or.inl ⟨by rfl, ?_⟩) hS ?_
              rotate_left
              · intro wx hSx
                try dsimp only at hSx
                go_simp
                try with_reducible rfl
              simp only [Act.put, List.getElem_toArray, List.getElem_cons_zero, List.getElem_cons_succ, List.setIfInBounds_toArray, List.set_cons_zero, List.set_cons_succ]
              refine wpAnyH_take (i := 6) (v := ?_) rfl (by kernel_rfl) (by kernel_rfl) (by kernel_rfl) (fun _ _ _ h => h) (Or.inl ⟨by rfl, ?_⟩) hS ?_
              rotate_left
              · intro wx hSx
                try dsimp only at hSx
                go_simp
                try with_reducible rfl
              simp only [Act.put, List.getElem_toArray, List.getElem_cons_zero, List.getElem_cons_succ, List.setIfInBounds_toArray, List.set_cons_zero, List.set_cons_succ]
              refine wpAnyH_take (i := 7) (v := ?_) rfl (by kernel_rfl) (by kernel_rfl) (by kernel_rfl) (fun _ _ _ h => h) (Or.inl ⟨by rfl, ?_⟩) hS ?_
              rotate_left
              · intro wx hSx
                try dsimp only at hSx
                go_simp
                try with_reducible rfl
              simp only [Act.put, List.getElem_toArray, List.getElem_cons_zero, List.getElem_cons_succ, List.setIfInBounds_toArray, List.set_cons_zero, List.set_cons_succ]
              refine wpAnyH_take (i := 8) (v := ?_) rfl (by kernel_rfl) (by kernel_rfl) (by kernel_rfl) (fun _ _ _ h => h) (Or.inl ⟨by rfl, ?_⟩) hS ?_
              rotate_left
              · intro wx hSx
                try dsimp only at hSx
                go_simp
                try with_reducible rfl
              simp only [Act.put, List.getElem_toArray, List.getElem_cons_zero, List.getElem_cons_succ, List.setIfInBounds_toArray, List.set_cons_zero, List.set_cons_succ]
              refine wpAnyH_take (i := 9) (v := ?_) rfl (by kernel_rfl) (by kernel_rfl) (by kernel_rfl) (fun _ _ _ h => h) (Or.inl ⟨by rfl, ?_⟩) hS ?_
              rotate_left
              · intro wx hSx
                try dsimp only at hSx
                go_simp
                try with_reducible rfl
              simp only [Act.put, List.getElem_toArray, List.getElem_cons_zero, List.getElem_cons_succ, List.setIfInBounds_toArray, List.set_cons_zero, List.set_cons_succ]
              refine wpAnyH_take (i := 10) (v := ?_) rfl (by kernel_rfl) (by kernel_rfl) (by kernel_rfl) (fun _ _ _ h => h) (Or.inl ⟨by rfl, ?_⟩) hS ?_
              rotate_left
              · intro wx hSx
                try dsimp only at hSx
                go_simp
                try with_reducible rfl
              simp only [Act.put, List.getElem_toArray, List.getElem_cons_zero, List.getElem_cons_succ, List.setIfInBounds_toArray, List.set_cons_zero, List.set_cons_succ]
              refine wpAnyH_take (i := 11) (v := ?_) rfl (by kernel_rfl) (by kernel_rfl) (by kernel_rfl) (fun _ _ _ h => h) (Or.inl ⟨by rfl, ?_⟩) hS ?_
              rotate_left
              · intro wx hSx
                try dsimp only at hSx
                go_simp
                try with_reducible rfl
              simp only [Act.put, List.getElem_toArray, List.getElem_cons_zero, List.getElem_cons_succ, List.setIfInBounds_toArray, List.set_cons_zero, List.set_cons_succ]
              refine wpAnyH_take (i := 12) (v := ?_) rfl (by kernel_rfl) (by kernel_rfl) (by kernel_rfl) (fun _ _ _ h => h) (Or.inl ⟨by rfl, ?_⟩) hS ?_
              rotate_left
              · intro wx hSx
                try dsimp only at hSx
                go_simp
                try with_reducible rfl
              simp only [Act.put, List.getElem_toArray, List.getElem_cons_zero, List.getElem_cons_succ, List.setIfInBounds_toArray, List.set_cons_zero, List.set_cons_succ]
              refine wpAnyH_take (i := 13) (v := ?_) rfl (by kernel_rfl) (by kernel_rfl) (by kernel_rfl) (fun _ _ _ h => h) (Or.inl ⟨by rfl, ?_⟩) hS ?_
              rotate_left
              · intro wx hSx
                try dsimp only at hSx
                go_simp
                try with_reducible rfl
              simp only [Act.put, List.getElem_toArray, List.getElem_cons_zero, List.getElem_cons_succ, List.setIfInBounds_toArray, List.set_cons_zero, List.set_cons_succ]
              refine wpAnyH_take (i := 14) (v := ?_) rfl (by kernel_rfl) (by kernel_rfl) (by kernel_rfl) (fun _ _ _ h => h) (Or.inl ⟨by rfl, ?_⟩) hS ?_
              rotate_left
              · intro wx hSx
                try dsimp only at hSx
                go_simp
                try with_reducible rfl
              simp only [Act.put, List.getElem_toArray, List.getElem_cons_zero, List.getElem_cons_succ, List.setIfInBounds_toArray, List.set_cons_zero, List.set_cons_succ]
              refine wpAnyH_ready (rs := [15]) (by kernel_rfl) (by simp) ?_
              refine AllReadyH.cons rfl (fun K hK => ?_) AllReadyH.nil
              simp only [List.getElem_toArray, List.getElem_cons_zero, List.getElem_cons_succ]
              go_simp
              refine (CM.out _).mono ?_
              rintro e w4 ⟨rfl, hbA⟩
              refine hK.out _ _ ⟨(hS.1).trans ((hbA).mono (hS.1).size), ((hbA).cell (cell_lt hS.2.1)).trans hS.2.1, ((hbA).cell (cell_lt hS.2.2.1)).trans hS.2.2.1, ((hbA).cell (cell_lt hS.2.2.2.1)).trans hS.2.2.2.1, ((hbA).cell (cell_lt hS.2.2.2.2.1)).trans hS.2.2.2.2.1, ((hbA).cell (cell_lt hS.2.2.2.2.2.1)).trans hS.2.2.2.2.2.1, ((hbA).cell (cell_lt hS.2.2.2.2.2.2.1)).trans hS.2.2.2.2.2.2.1, ((hbA).cell (cell_lt hS.2.2.2.2.2.2.2.1)).trans hS.2.2.2.2.2.2.2.1, ((hbA).cell (cell_lt hS.2.2.2.2.2.2.2.2)).trans hS.2.2.2.2.2.2.2.2⟩ (fun hS1 => ?_)
              clear hK
              refine wpAnyH_take (i := 16) (v := ?_) rfl (by kernel_rfl) (by kernel_rfl) (by kernel_rfl) (fun _ _ _ h => h) (Or.inl ⟨by rfl, ?_⟩) hS1 ?_
              rotate_left
              · intro wx hSx
                try dsimp only at hSx
                go_simp
                try with_reducible rfl
              simp only [Act.put, List.getElem_toArray, List.getElem_cons_zero, List.getElem_cons_succ, List.setIfInBounds_toArray, List.set_cons_zero, List.set_cons_succ]
              refine wpAnyH_take (i := 17) (v := ?_) rfl (by kernel_rfl) (by kernel_rfl) (by kernel_rfl) (fun _ _ _ h => h) (Or.inl ⟨by rfl, ?_⟩) hS1 ?_
              rotate_left
              · intro wx hSx
                try dsimp only at hSx
                go_simp
                try with_reducible rfl
              simp only [Act.put, List.getElem_toArray, List.getElem_cons_zero, List.getElem_cons_succ, List.setIfInBounds_toArray, List.set_cons_zero, List.set_cons_succ]
              refine wpAnyH_take (i := 18) (v := ?_) rfl (by kernel_rfl) (by kernel_rfl) (by kernel_rfl) (fun _ _ _ h => h) (Or.inl ⟨by rfl, ?_⟩) hS1 ?_
              rotate_left
              · intro wx hSx
                try dsimp only at hSx
                go_simp
                try with_reducible rfl
              simp only [Act.put, List.getElem_toArray, List.getElem_cons_zero, List.getElem_cons_succ, List.setIfInBounds_toArray, List.set_cons_zero, List.set_cons_succ]
              refine wpAnyH_take (i := 19) (v := ?_) rfl (by kernel_rfl) (by kernel_rfl) (by kernel_rfl) (fun _ _ _ h => h) (Or.inl ⟨by rfl, ?_⟩) hS1 ?_
              rotate_left
              · intro wx hSx
                try dsimp only at hSx
                go_simp
                try with_reducible rfl
              simp only [Act.put, List.getElem_toArray, List.getElem_cons_zero, List.getElem_cons_succ, List.setIfInBounds_toArray, List.set_cons_zero, List.set_cons_succ]
              refine wpAnyH_take (i := 20) (v := ?_) rfl (by kernel_rfl) (by kernel_rfl) (by kernel_rfl) (fun _ _ _ h => h) (Or.inl ⟨by rfl, ?_⟩) hS1 ?_
              rotate_left
              · intro wx hSx
                try dsimp only at hSx
                go_simp
                try with_reducible rfl
              simp only [Act.put, List.getElem_toArray, List.getElem_cons_zero, List.getElem_cons_succ, List.setIfInBounds_toArray, List.set_cons_zero, List.set_cons_succ]
              refine wpAnyH_take (i := 21) (v := ?_) rfl (by kernel_rfl) (by kernel_rfl) (by kernel_rfl) (fun _ _ _ h => h) (Or.inl ⟨by rfl, ?_⟩) hS1 ?_
              rotate_left
              · intro wx hSx
                try dsimp only at hSx
                go_simp
                try with_reducible rfl
              simp only [Act.put, List.getElem_toArray, List.getElem_cons_zero, List.getElem_cons_succ, List.setIfInBounds_toArray, List.set_cons_zero, List.set_cons_succ]
              refine wpAnyH_take (i := 22) (v := ?_) rfl (by kernel_rfl) (by kernel_rfl) (by kernel_rfl) (fun _ _ _ h => h) (Or.inl ⟨by rfl, ?_⟩) hS1 ?_
              rotate_left
              · intro wx hSx
                try dsimp only at hSx
                go_simp
                try with_reducible rfl
              simp only [Act.put, List.getElem_toArray, List.getElem_cons_zero, List.getElem_cons_succ, List.setIfInBounds_toArray, List.set_cons_zero, List.set_cons_succ]
              refine wpAnyH_take (i := 23) (v := undef) rfl (by kernel_rfl) (by kernel_rfl) (by kernel_rfl) (fun _ _ _ h => h) (Or.inr ⟨by rfl, rfl⟩) hS1 ?_
              simp only [Act.put, List.getElem_toArray, List.getElem_cons_zero, List.getElem_cons_succ, List.setIfInBounds_toArray, List.set_cons_zero, List.set_cons_succ]
              refine wpAnyH_take (i := 24) (v := undef) rfl (by kernel_rfl) (by kernel_rfl) (by kernel_rfl) (fun _ _ _ h => h) (Or.inr ⟨by rfl, rfl⟩) hS1 ?_
              simp only [Act.put, List.getElem_toArray, List.getElem_cons_zero, List.getElem_cons_succ, List.setIfInBounds_toArray, List.set_cons_zero, List.set_cons_succ]
              refine wpAnyH_take (i := 25) (v := undef) rfl (by kernel_rfl) (by kernel_rfl) (by kernel_rfl) (fun _ _ _ h => h) (Or.inr ⟨by rfl, rfl⟩) hS1 ?_
              simp only [Act.put, List.getElem_toArray, List.getElem_cons_zero, List.getElem_cons_succ, List.setIfInBounds_toArray, List.set_cons_zero, List.set_cons_succ]
              refine wpAnyH_take (i := 26) (v := undef) rfl (by kernel_rfl) (by kernel_rfl) (by kernel_rfl) (fun _ _ _ h => h) (Or.inr ⟨by rfl, rfl⟩) hS1 ?_
              simp only [Act.put, List.getElem_toArray, List.getElem_cons_zero, List.getElem_cons_succ, List.setIfInBounds_toArray, List.set_cons_zero, List.set_cons_succ]
              refine wpAnyH_take (i := 27) (v := undef) rfl (by kernel_rfl) (by kernel_rfl) (by kernel_rfl) (fun _ _ _ h => h) (Or.inr ⟨by rfl, rfl⟩) hS1 ?_
              simp only [Act.put, List.getElem_toArray, List.getElem_cons_zero, List.getElem_cons_succ, List.setIfInBounds_toArray, List.set_cons_zero, List.set_cons_succ]
              refine wpAnyH_take (i := 28) (v := undef) rfl (by kernel_rfl) (by kernel_rfl) (by kernel_rfl) (fun _ _ _ h => h) (Or.inr ⟨by rfl, rfl⟩) hS1 ?_
              simp only [Act.put, List.getElem_toArray, List.getElem_cons_zero, List.getElem_cons_succ, List.setIfInBounds_toArray, List.set_cons_zero, List.set_cons_succ]
              refine wpAnyH_take (i := 29) (v := ?_) rfl (by kernel_rfl) (by kernel_rfl) (by kernel_rfl) (fun _ _ _ h => h) (Or.inl ⟨by rfl, ?_⟩) hS1 ?_
              rotate_left
              · intro wx hSx
                try dsimp only at hSx
                go_simp
                try with_reducible rfl
              simp only [Act.put, List.getElem_toArray, List.getElem_cons_zero, List.getElem_cons_succ, List.setIfInBounds_toArray, List.set_cons_zero, List.set_cons_succ]
              refine wpAnyH_take (i := 30) (v := ?_) rfl (by kernel_rfl) (by kernel_rfl) (by kernel_rfl) (fun _ _ _ h => h) (Or.inl ⟨by rfl, ?_⟩) hS1 ?_
              rotate_left
              · intro wx hSx
                try dsimp only at hSx
                go_simp
                try with_reducible rfl
              simp only [Act.put, List.getElem_toArray, List.getElem_cons_zero, List.getElem_cons_succ, List.setIfInBounds_toArray, List.set_cons_zero, List.set_cons_succ]
              refine wpAnyH_done (by kernel_rfl) ?_ _
              refine NoPanic.normal ?_
              have hbA2 := hS1.1
              go_wp2_with fail
              go_meet
              case rel => exact ⟨rfl, hbA2⟩
            | true =>
              have hge' := hge rfl
              have hg3 : decide (xn < sn) = false := decide_eq_false (by omega)
              have hg4 : ¬ xn < sn := by omega
              go_wp2_with fail
              refine wp_region_noPanic ?_
              refine wp_region_held_drew (S := fun w' => Below V.heap.size V w' ∧ w'.cell? ⟨w1.heap.size, 0, none⟩ = some (.int .u8 sk) ∧ w'.cell? ⟨w1.heap.size, 1, none⟩ = some (.int .i64 sn) ∧ w'.cell? ⟨w1.heap.size, 2, none⟩ = some (.bool true) ∧ w'.cell? ⟨w1.heap.size, 3, none⟩ = some (.slice (some ⟨g, off, none⟩) m cap) ∧ w'.cell? ⟨wr.heap.size, 0, none⟩ = some (.int .u8 xk) ∧ w'.cell? ⟨wr.heap.size, 1, none⟩ = some (.int .i64 xn) ∧ w'.cell? ⟨g, off + j * 2, none⟩ = some (.int .u8 zk) ∧ w'.cell? ⟨g, off + j * 2 + 1, none⟩ = some (.int .i64 zn)) (by kernel_rfl) ⟨below_draw, p0, p1, p2, p3, x0, x1, e0, e1⟩ (fun hS => ?_)
              refine wpAnyH_take (i := 0) (v := ?_) rfl (by kernel_rfl) (by kernel_rfl) (by kernel_rfl) (fun _ _ _ h => h) (Or.inl ⟨by rfl, ?_⟩) hS ?_
              rotate_left
              · intro wx hSx
                try dsimp only at hSx
                go_simp
                try with_reducible rfl
              simp only [Act.put, List.getElem_toArray, List.getElem_cons_zero, List.setIfInBounds_toArray, List.set_cons_zero, List.set_cons_succ]
              refine wpAnyH_take (i := 1) (v := ?_) rfl (by kernel_rfl) (by kernel_rfl) (by kernel_rfl) (fun _ _ _ h => h) (Or.inl ⟨by rfl, ?_⟩) hS ?_
              rotate_left
              · intro wx hSx
                try dsimp only at hSx
                go_simp
                try with_reducible rfl
              simp only [Act.put, List.getElem_toArray, List.getElem_cons_zero, List.getElem_cons_succ, List.setIfInBounds_toArray, List.set_cons_zero, List.set_cons_succ]
              refine wpAnyH_take (i := 2) (v := ?_) rfl (by kernel_rfl) (by kernel_rfl) (by kernel_rfl) (fun _ _ _ h => h) (Or.inl ⟨by rfl, ?_⟩) hS ?_
              rotate_left
              · intro wx hSx
                try dsimp only at hSx
                go_simp
                try with_reducible rfl
              simp only [Act.put, List.getElem_toArray, List.getElem_cons_zero, List.getElem_cons_succ, List.setIfInBounds_toArray, List.set_cons_zero, List.set_cons_succ]
              refine wpAnyH_take (i := 3) (v := ?_) rfl (by kernel_rfl) (by kernel_rfl) (by kernel_rfl) (fun _ _ _ h => h) (Or.inl ⟨by rfl, ?_⟩) hS ?_
              rotate_left
              · intro wx hSx
                try dsimp only at hSx
                go_simp
                try with_reducible rfl
              simp only [Act.put, List.getElem_toArray, List.getElem_cons_zero, List.getElem_cons_succ, List.setIfInBounds_toArray, List.set_cons_zero, List.set_cons_succ]
              refine wpAnyH_take (i := 4) (v := ?_) rfl (by kernel_rfl) (by kernel_rfl) (by kernel_rfl) (fun _ _ _ h => h) (Or.inl ⟨by rfl, ?_⟩) hS ?_
              rotate_left
              · intro wx hSx
                try dsimp only at hSx
                go_simp
                try with_reducible rfl
              simp only [Act.put, List.getElem_toArray, List.getElem_cons_zero, List.getElem_cons_succ, List.setIfInBounds_toArray, List.set_cons_zero, List.set_cons_succ]
              refine wpAnyH_take (i := 5) (v := ?_) rfl (by kernel_rfl) (by kernel_rfl) (by kernel_rfl) (fun _ _ _ h => h) (Or.inl ⟨by rfl, ?_⟩) hS ?_
              rotate_left
              · intro wx hSx
                try dsimp only at hSx
                go_simp
                try with_reducible rfl
              simp only [Act.put, List.getElem_toArray, List.getElem_cons_zero, List.getElem_cons_succ, List.setIfInBounds_toArray, List.set_cons_zero, List.set_cons_succ]
              refine wpAnyH_take (i := 6) (v := ?_) rfl (by kernel_rfl) (by kernel_rfl) (by kernel_rfl) (fun _ _ _ h => h) (Or.inl ⟨by rfl, ?_⟩) hS ?_
              rotate_left
              · intro wx hSx
                try dsimp only at hSx
                go_simp
                try with_reducible rfl
              simp only [Act.put, List.getElem_toArray, List.getElem_cons_zero, List.getElem_cons_succ, List.setIfInBounds_toArray, List.set_cons_zero, List.set_cons_succ]
              refine wpAnyH_take (i := 7) (v := ?_) rfl (by kernel_rfl) (by kernel_rfl) (by kernel_rfl) (fun _ _ _ h => h) (Or.inl ⟨by rfl, ?_⟩) hS ?_
              rotate_left
              · intro wx hSx
                try dsimp only at hSx
                go_simp
                try with_reducible rfl
              simp only [Act.put, List.getElem_toArray, List.getElem_cons_zero, List.getElem_cons_succ, List.setIfInBounds_toArray, List.set_cons_zero, List.set_cons_succ]
              refine wpAnyH_take (i := 8) (v := ?_) rfl (by kernel_rfl) (by kernel_rfl) (by kernel_rfl) (fun _ _ _ h => h) (Or.inl ⟨by rfl, ?_⟩) hS ?_
              rotate_left
              · intro wx hSx
                try dsimp only at hSx
                go_simp
                try with_reducible rfl
              simp only [Act.put, List.getElem_toArray, List.getElem_cons_zero, List.getElem_cons_succ, List.setIfInBounds_toArray, List.set_cons_zero, List.set_cons_succ]
              refine wpAnyH_take (i := 9) (v := ?_) rfl (by kernel_rfl) (by kernel_rfl) (by kernel_rfl) (fun _ _ _ h => h) (Or.inl ⟨by rfl, ?_⟩) hS ?_
              rotate_left
              · intro wx hSx
                try dsimp only at hSx
                go_simp
                try with_reducible rfl
              simp only [Act.put, List.getElem_toArray, List.getElem_cons_zero, List.getElem_cons_succ, List.setIfInBounds_toArray, List.set_cons_zero, List.set_cons_succ]
              refine wpAnyH_take (i := 10) (v := ?_) rfl (by kernel_rfl) (by kernel_rfl) (by kernel_rfl) (fun _ _ _ h => h) (Or.inl ⟨by rfl, ?_⟩) hS ?_
              rotate_left
              · intro wx hSx
                try dsimp only at hSx
                go_simp
                try with_reducible rfl
              simp only [Act.put, List.getElem_toArray, List.getElem_cons_zero, List.getElem_cons_succ, List.setIfInBounds_toArray, List.set_cons_zero, List.set_cons_succ]
              refine wpAnyH_take (i := 11) (v := ?_) rfl (by kernel_rfl) (by kernel_rfl) (by kernel_rfl) (fun _ _ _ h => h) (Or.inl ⟨by rfl, ?_⟩) hS ?_
              rotate_left
              · intro wx hSx
                try dsimp only at hSx
                go_simp
                try with_reducible rfl
              simp only [Act.put, List.getElem_toArray, List.getElem_cons_zero, List.getElem_cons_succ, List.setIfInBounds_toArray, List.set_cons_zero, List.set_cons_succ]
              refine wpAnyH_take (i := 12) (v := ?_) rfl (by kernel_rfl) (by kernel_rfl) (by kernel_rfl) (fun _ _ _ h => h) (Or.inl ⟨by rfl, ?_⟩) hS ?_
              rotate_left
              · intro wx hSx
                try dsimp only at hSx
                go_simp
                try with_reducible rfl
              simp only [Act.put, List.getElem_toArray, List.getElem_cons_zero, List.getElem_cons_succ, List.setIfInBounds_toArray, List.set_cons_zero, List.set_cons_succ]
              refine wpAnyH_take (i := 13) (v := ?_) rfl (by kernel_rfl) (by kernel_rfl) (by kernel_rfl) (fun _ _ _ h => h) (Or.inl ⟨by rfl, ?_⟩) hS ?_
              rotate_left
              · intro wx hSx
                try dsimp only at hSx
                go_simp
                try with_reducible rfl
              simp only [Act.put, List.getElem_toArray, List.getElem_cons_zero, List.getElem_cons_succ, List.setIfInBounds_toArray, List.set_cons_zero, List.set_cons_succ]
              refine wpAnyH_take (i := 14) (v := ?_) rfl (by kernel_rfl) (by kernel_rfl) (by kernel_rfl) (fun _ _ _ h => h) (Or.inl ⟨by rfl, ?_⟩) hS ?_
              rotate_left
              · intro wx hSx
                try dsimp only at hSx
                go_simp
                try with_reducible rfl
              simp only [Act.put, List.getElem_toArray, List.getElem_cons_zero, List.getElem_cons_succ, List.setIfInBounds_toArray, List.set_cons_zero, List.set_cons_succ]
              refine wpAnyH_ready (rs := [15]) (by kernel_rfl) (by simp) ?_
              refine AllReadyH.cons rfl (fun K hK => ?_) AllReadyH.nil
              simp only [List.getElem_toArray, List.getElem_cons_zero, List.getElem_cons_succ]
              go_simp
              refine (CM.out _).mono ?_
              rintro e w4 ⟨rfl, hbA⟩
              refine hK.out _ _ ⟨(hS.1).trans ((hbA).mono (hS.1).size), ((hbA).cell (cell_lt hS.2.1)).trans hS.2.1, ((hbA).cell (cell_lt hS.2.2.1)).trans hS.2.2.1, ((hbA).cell (cell_lt hS.2.2.2.1)).trans hS.2.2.2.1, ((hbA).cell (cell_lt hS.2.2.2.2.1)).trans hS.2.2.2.2.1, ((hbA).cell (cell_lt hS.2.2.2.2.2.1)).trans hS.2.2.2.2.2.1, ((hbA).cell (cell_lt hS.2.2.2.2.2.2.1)).trans hS.2.2.2.2.2.2.1, ((hbA).cell (cell_lt hS.2.2.2.2.2.2.2.1)).trans hS.2.2.2.2.2.2.2.1, ((hbA).cell (cell_lt hS.2.2.2.2.2.2.2.2)).trans hS.2.2.2.2.2.2.2.2⟩ (fun hS1 => ?_)
              clear hK
              refine wpAnyH_take (i := 16) (v := ?_) rfl (by kernel_rfl) (by kernel_rfl) (by kernel_rfl) (fun _ _ _ h => h) (Or.inl ⟨by rfl, ?_⟩) hS1 ?_
              rotate_left
              · intro wx hSx
                try dsimp only at hSx
                go_simp
                try with_reducible rfl
              simp only [Act.put, List.getElem_toArray, List.getElem_cons_zero, List.getElem_cons_succ, List.setIfInBounds_toArray, List.set_cons_zero, List.set_cons_succ]
              refine wpAnyH_take (i := 17) (v := ?_) rfl (by kernel_rfl) (by kernel_rfl) (by kernel_rfl) (fun _ _ _ h => h) (Or.inl ⟨by rfl, ?_⟩) hS1 ?_
              rotate_left
              · intro wx hSx
                try dsimp only at hSx
                go_simp
                try with_reducible rfl
              simp only [Act.put, List.getElem_toArray, List.getElem_cons_zero, List.getElem_cons_succ, List.setIfInBounds_toArray, List.set_cons_zero, List.set_cons_succ]
              refine wpAnyH_take (i := 18) (v := ?_) rfl (by kernel_rfl) (by kernel_rfl) (by kernel_rfl) (fun _ _ _ h => h) (Or.inl ⟨by rfl, ?_⟩) hS1 ?_
              rotate_left
              · intro wx hSx
                try dsimp only at hSx
                go_simp
                try with_reducible rfl
              simp only [Act.put, List.getElem_toArray, List.getElem_cons_zero, List.getElem_cons_succ, List.setIfInBounds_toArray, List.set_cons_zero, List.set_cons_succ]
              refine wpAnyH_take (i := 19) (v := ?_) rfl (by kernel_rfl) (by kernel_rfl) (by kernel_rfl) (fun _ _ _ h => h) (Or.inl ⟨by rfl, ?_⟩) hS1 ?_
              rotate_left
              · intro wx hSx
                try dsimp only at hSx
                go_simp
                try with_reducible rfl
              simp only [Act.put, List.getElem_toArray, List.getElem_cons_zero, List.getElem_cons_succ, List.setIfInBounds_toArray, List.set_cons_zero, List.set_cons_succ]
              refine wpAnyH_take (i := 20) (v := ?_) rfl (by kernel_rfl) (by kernel_rfl) (by kernel_rfl) (fun _ _ _ h => h) (Or.inl ⟨by rfl, ?_⟩) hS1 ?_
              rotate_left
              · intro wx hSx
                try dsimp only at hSx
                go_simp
                try with_reducible rfl
              simp only [Act.put, List.getElem_toArray, List.getElem_cons_zero, List.getElem_cons_succ, List.setIfInBounds_toArray, List.set_cons_zero, List.set_cons_succ]
              refine wpAnyH_take (i := 21) (v := ?_) rfl (by kernel_rfl) (by kernel_rfl) (by kernel_rfl) (fun _ _ _ h => h) (Or.inl ⟨by rfl, ?_⟩) hS1 ?_
              rotate_left
              · intro wx hSx
                try dsimp only at hSx
                go_simp
                try with_reducible rfl
              simp only [Act.put, List.getElem_toArray, List.getElem_cons_zero, List.getElem_cons_succ, List.setIfInBounds_toArray, List.set_cons_zero, List.set_cons_succ]
              refine wpAnyH_take (i := 22) (v := ?_) rfl (by kernel_rfl) (by kernel_rfl) (by kernel_rfl) (fun _ _ _ h => h) (Or.inl ⟨by rfl, ?_⟩) hS1 ?_
              rotate_left
              · intro wx hSx
                try dsimp only at hSx
                go_simp
                try with_reducible rfl
              simp only [Act.put, List.getElem_toArray, List.getElem_cons_zero, List.getElem_cons_succ, List.setIfInBounds_toArray, List.set_cons_zero, List.set_cons_succ]
              refine wpAnyH_take (i := 23) (v := ?_) rfl (by kernel_rfl) (by kernel_rfl) (by kernel_rfl) (fun _ _ _ h => h) (Or.inl ⟨by rfl, ?_⟩) hS1 ?_
              rotate_left
              · intro wx hSx
                try dsimp only at hSx
                go_simp
                try with_reducible rfl
              simp only [Act.put, List.getElem_toArray, List.getElem_cons_zero, List.getElem_cons_succ, List.setIfInBounds_toArray, List.set_cons_zero, List.set_cons_succ]
              refine wpAnyH_take (i := 24) (v := ?_) rfl (by kernel_rfl) (by kernel_rfl) (by kernel_rfl) (fun _ _ _ h => h) (Or.inl ⟨by rfl, ?_⟩) hS1 ?_
              rotate_left
              · intro wx hSx
                try dsimp only at hSx
                go_simp
                try with_reducible rfl
              simp only [Act.put, List.getElem_toArray, List.getElem_cons_zero, List.getElem_cons_succ, List.setIfInBounds_toArray, List.set_cons_zero, List.set_cons_succ]
              refine wpAnyH_take (i := 25) (v := ?_) rfl (by kernel_rfl) (by kernel_rfl) (by kernel_rfl) (fun _ _ _ h => h) (Or.inl ⟨by rfl, ?_⟩) hS1 ?_
              rotate_left
              · intro wx hSx
                try dsimp only at hSx
                go_simp
                try with_reducible rfl
              simp only [Act.put, List.getElem_toArray, List.getElem_cons_zero, List.getElem_cons_succ, List.setIfInBounds_toArray, List.set_cons_zero, List.set_cons_succ]
              refine wpAnyH_take (i := 26) (v := ?_) rfl (by kernel_rfl) (by kernel_rfl) (by kernel_rfl) (fun _ _ _ h => h) (Or.inl ⟨by rfl, ?_⟩) hS1 ?_
              rotate_left
              · intro wx hSx
                try dsimp only at hSx
                go_simp
                try with_reducible rfl
              simp only [Act.put, List.getElem_toArray, List.getElem_cons_zero, List.getElem_cons_succ, List.setIfInBounds_toArray, List.set_cons_zero, List.set_cons_succ]
              refine wpAnyH_take (i := 27) (v := ?_) rfl (by kernel_rfl) (by kernel_rfl) (by kernel_rfl) (fun _ _ _ h => h) (Or.inl ⟨by rfl, ?_⟩) hS1 ?_
              rotate_left
              · intro wx hSx
                try dsimp only at hSx
                go_simp
                try with_reducible rfl
              simp only [Act.put, List.getElem_toArray, List.getElem_cons_zero, List.getElem_cons_succ, List.setIfInBounds_toArray, List.set_cons_zero, List.set_cons_succ]
              refine wpAnyH_take (i := 28) (v := ?_) rfl (by kernel_rfl) (by kernel_rfl) (by kernel_rfl) (fun _ _ _ h => h) (Or.inl ⟨by rfl, ?_⟩) hS1 ?_
              rotate_left
              · intro wx hSx
                try dsimp only at hSx
                go_simp
                try with_reducible rfl
              simp only [Act.put, List.getElem_toArray, List.getElem_cons_zero, List.getElem_cons_succ, List.setIfInBounds_toArray, List.set_cons_zero, List.set_cons_succ]
              refine wpAnyH_take (i := 29) (v := ?_) rfl (by kernel_rfl) (by kernel_rfl) (by kernel_rfl) (fun _ _ _ h => h) (Or.inl ⟨by rfl, ?_⟩) hS1 ?_
              rotate_left
              · intro wx hSx
                try dsimp only at hSx
                go_simp
                try with_reducible rfl
              simp only [Act.put, List.getElem_toArray, List.getElem_cons_zero, List.getElem_cons_succ, List.setIfInBounds_toArray, List.set_cons_zero, List.set_cons_succ]
              refine wpAnyH_take (i := 30) (v := ?_) rfl (by kernel_rfl) (by kernel_rfl) (by kernel_rfl) (fun _ _ _ h => h) (Or.inl ⟨by rfl, ?_⟩) hS1 ?_
              rotate_left
              · intro wx hSx
                try dsimp only at hSx
                go_simp
                try with_reducible rfl
              simp only [Act.put, List.getElem_toArray, List.getElem_cons_zero, List.getElem_cons_succ, List.setIfInBounds_toArray, List.set_cons_zero, List.set_cons_succ]
              refine wpAnyH_done (by kernel_rfl) ?_ _
              refine NoPanic.normal ?_
              have hbA2 := hS1.1
              go_wp2_with fail
              go_meet
              case rel => exact ⟨rfl, hbA2⟩
        case rest =>
          obtain ⟨rfl, hbA2⟩ := hcut
          have t0 := (hbA2.cell (p := ⟨wr.heap.size, 0, none⟩) (by exact hVr)).trans x0
          have t1 := (hbA2.cell (p := ⟨wr.heap.size, 1, none⟩) (by exact hVr)).trans x1
          have hbV2 : Below w2.heap.size w2 wc := keepW hbV hbA2
          have hV2 : wr.heap.size < wc.heap.size := Nat.lt_of_lt_of_le hVr hbA2.size
          clear x0 x1 p0 p1 p2 p3 hbA2
          obtain ⟨xb, hxb⟩ : ∃ xb, xb = wr.heap.size := ⟨_, rfl⟩
          rw [← hxb] at t0 t1 hV2 ⊢
          clear hxb
          have hcv := fun (w : World) (C : Array Value) (n c : Nat) => Lib.run_convert_bytes_const (P := Try.prog) w 41 5 C n c Try.underlying41 Try.underlying5
          go_wp2_with fail
          obtain ⟨U, hU⟩ : ∃ U, U = wc.alloc (.cells #[.int .u8 115, .int .u8 114] 5 (2, 3)) := ⟨_, rfl⟩
          have y0 : U.cell? ⟨wc.heap.size, 0, none⟩ = some (.int .u8 115) := by rw [hU]; exact mark_cell _ _ _ _ 0 _ rfl
          have y1 : U.cell? ⟨wc.heap.size, 1, none⟩ = some (.int .u8 114) := by rw [hU]; exact mark_cell _ _ _ _ 1 _ rfl
          have hbU : Below wc.heap.size wc U := by rw [hU]; exact below_box _ _
          have z0 := (hbU.cell (p := ⟨xb, 0, none⟩) (by exact hV2)).trans t0
          have z1 := (hbU.cell (p := ⟨xb, 1, none⟩) (by exact hV2)).trans t1
          have HbU := Lib.hid (keepW hbV2 hbU)
          have hyU : wc.heap.size < U.heap.size := by rw [hU]; simp
          have hxU : xb < U.heap.size := Nat.lt_of_lt_of_le hV2 hbU.size
          rw [← hU]
          clear hU hbU t0 t1 hcv
          have Z0 := Lib.hid z0
          have Z1 := Lib.hid z1
          have Y0 := Lib.hid y0
          have Y1' := Lib.hid y1
          go_loopw [59] (fun i wq => ∃ q : Nat, q ≤ 2 ∧ i = .int .i64 (q : Nat) ∧ Below U.heap.size U wq) (fun i _ => 2 - (intOf i).toNat)
          case atStart => exact ⟨0, by omega, rfl, Below.refl _ _⟩
          case round =>
            obtain ⟨q, hq, rfl, hbq⟩ := hrel
            clear z0 z1 y0 y1
            have a0 := (hbq.cell (p := ⟨xb, 0, none⟩) (by exact hxU)).trans Z0.out
            have a1 := (hbq.cell (p := ⟨xb, 1, none⟩) (by exact hxU)).trans Z1.out
            have b0 := (hbq.cell (p := ⟨wc.heap.size, 0, none⟩) (by exact hyU)).trans Y0.out
            have b1 := (hbq.cell (p := ⟨wc.heap.size, 1, none⟩) (by exact hyU)).trans Y1'.out
            rcases (show q = 0 ∨ q = 1 ∨ q = 2 by omega) with rfl | rfl | rfl
            · go_wp2_with fail
              refine (N1.out _).mono ?_
              rintro e w5 ⟨rfl, hb5⟩
              have hB5 := keepW hbq hb5
              clear hb5
              go_wp2_with fail
              refine (N2.out _).mono ?_
              rintro e w6 ⟨rfl, hb6⟩
              have hB6 := keepW hB5 hb6
              clear hb6
              go_wp2_with fail
              go_roundw
              case rel => exact ⟨1, by omega, rfl, hB6⟩
              case measure => simp [intOf]
            · go_wp2_with fail
              refine (N1.out _).mono ?_
              rintro e w5 ⟨rfl, hb5⟩
              have hB5 := keepW hbq hb5
              clear hb5
              go_wp2_with fail
              refine (N3.out _).mono ?_
              rintro e w6 ⟨rfl, hb6⟩
              have hB6 := keepW hB5 hb6
              clear hb6
              go_wp2_with fail
              go_roundw
              case rel => exact ⟨2, by omega, rfl, hB6⟩
              case measure => simp [intOf]
            · go_wp2_with fail
              go_roundw
              case rel => exact ⟨k + 1, by omega, by go_num, keepW HbU.out hbq⟩
              case measure => simp [intOf]; omega
      · obtain rfl : m = k := by omega
        cases bo with
        | false =>
          go_wp2_with fail
          refine (AL.out _).mono ?_
          rintro e w9 ⟨rfl, hb9⟩
          have r2 := (hb9.cell (p := ⟨w1.heap.size, 2, none⟩) hLr).trans q2
          have hB9 := keepW (keepW HB2.out hb) hb9
          clear hb9
          go_wp2_with fail
          go_ret
          exact ⟨rfl, hB9⟩
        | true =>
          have hsn := (HSN.out rfl).2
          go_wp2_with fail
          refine (AL.out _).mono ?_
          rintro e w9 ⟨rfl, hb9⟩
          have r1 := (hb9.cell (p := ⟨w1.heap.size, 1, none⟩) hLr).trans q1
          have r2 := (hb9.cell (p := ⟨w1.heap.size, 2, none⟩) hLr).trans q2
          have hB9 := keepW (keepW HB2.out hb) hb9
          clear hb9
          go_wp2_with fail
          go_ret
          exact ⟨rfl, hB9⟩
end SgM
end Go.Proofs.Ytefknfbmphdafaa
