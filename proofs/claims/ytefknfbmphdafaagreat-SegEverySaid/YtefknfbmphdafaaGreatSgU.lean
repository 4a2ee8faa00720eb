/- The document's Lay: the walk. -/
import Derived.Test.YtefknfbmphdafaaGreatSgT2
import Derived.Test.YtefknfbmphdafaaGreatSgY
import Derived.Deep.Cut
import Derived.Deep.CutRange
namespace Go.Proofs.YtefknfbmphdafaaGreat
namespace SgM
open Go Go.RowKit CrcM FrM
open Ds (Blk Kp)

def setC (o : Option Sg) (x : Sg) : Bool := isC x && (match o with | none => true | some t => decide (t.n < x.n))
theorem snF_set {l : List Sg} {o : Option Sg} {x : Sg} (h : snF l = o) : snF (l ++ [x]) = if setC o x = true then some x else o := by
  rw [snF_snoc, h]
  unfold setC
  cases hc : isC x with
  | false => simp
  | true =>
    cases o with
    | none => simp
    | some t => by_cases h2 : t.n < x.n <;> simp [h2]
theorem info_rlay : (Tryz.prog.info? 33).map (·.size) = some 5 := by kernel_rfl
theorem five_setR {W : World} {R : Nat} {T : TypeId} (h : Blk W R T (layC none (.slice none 0 0) (.slice none 0 0))) (o : Option Sg) (vs vt : Value) :
    Blk (((((W.setCell ⟨R, 0, none⟩ (.int .u8 ((o.getD zS).k.toNat : Nat))).setCell ⟨R, 1, none⟩ (.int .i64 (o.getD zS).n)).setCell ⟨R, 2, none⟩ (.bool o.isSome)).setCell ⟨R, 3, none⟩ vs).setCell ⟨R, 4, none⟩ vt) R T (layC o vs vt) :=
  ((((h.set_ 0 _).set_ 1 _).set_ 2 _).set_ 3 _).set_ 4 _
def RLayPost (F : List ByteArray) (w : World) (e : Ending) (w' : World) : Prop :=
  ∃ vs vt, e = .returned (.agg (layC (snF (pkS F)) vs vt)) ∧ w'.ownsRow w.heap.size 30 2 vs (segsL (uq (pkS F)) (snF (pkS F))).length (sgC (segsL (uq (pkS F)) (snF (pkS F))))
    ∧ w'.ownsRow w.heap.size 9 1 vt (rTr (trN (uq (pkS F)) (snF (pkS F)))).length (strC (rTr (trN (uq (pkS F)) (snF (pkS F))))) ∧ Below w.heap.size w w'
structure ROut (w3 wr : World) (O R : Nat) (o : Option Sg) (M : List Sg) (vs vt : Value) : Prop where
  blk : Blk wr O 33 (layC o vs vt)
  segs : wr.ownsRow w3.heap.size 30 2 vs (segsL M o).length (sgC (segsL M o))
  tras : wr.ownsRow w3.heap.size 9 1 vt (rTr (trN M o)).length (strC (rTr (trN M o)))
  kp : Kp O O w3 wr
  lt : O < w3.heap.size
section
variable {w3 wr w' : World} {O R : Nat} {o : Option Sg} {M : List Sg} {vs vt : Value}
theorem ROut.step (h : ROut w3 wr O R o M vs vt) (hb : Below wr.heap.size wr w') : ROut w3 w' O R o M vs vt :=
  ⟨blk_step h.blk hb, ownsRow_below' h.segs hb, ownsRow_below' h.tras hb, h.kp.trans (Kp.of_below hb), h.lt⟩
theorem ROut.alloc (h : ROut w3 wr O R o M vs vt) (x : Obj) : ROut w3 (wr.alloc x) O R o M vs vt := h.step (below_box _ _)
theorem ROut.drew (h : ROut w3 wr O R o M vs vt) : ROut w3 wr.drew O R o M vs vt := h.step below_draw
theorem ROut.skip {x : Sg} (h : ROut w3 wr O R o M vs vt) (hx : isSn o x = true) : ROut w3 wr O R o (M ++ [x]) vs vt := by
  have h1 : segF o x = false := by unfold segF; rw [hx]; rfl
  have h2 : traF o x = false := by unfold traF; rw [hx]; rfl
  have e1 : segsL (M ++ [x]) o = segsL M o := by rw [segs_snoc, h1]; simp
  have e2 : trN (M ++ [x]) o = trN M o := by rw [trn_snoc, h2]; simp
  exact ⟨h.blk, by rw [e1]; exact h.segs, by rw [e2]; exact h.tras, h.kp, h.lt⟩
theorem ROut.seg {x : Sg} {xk xn : Int} {vs' : Value} {z : Obj} (h : ROut w3 wr O R o M vs vt) (hs : isSn o x = false) (hx : (isSR x && geS o x) = true) (hk : xk = (x.k.toNat : Nat)) (hn : xn = x.n)
    (hown : w'.ownsRow w3.heap.size 30 2 vs' ((segsL M o).length + 1) (sgC (segsL M o) ++ [.int .u8 xk, .int .i64 xn])) (hg : (wr.alloc z).grownBy w' vs.ownBlock) :
    Blk w' O 33 (layC o vs vt) ∧ ROut w3 (w'.setCell ⟨O, 3, none⟩ vs') O R o (M ++ [x]) vs' vt := by
  have h2 := h.alloc z
  have hlt := h.lt
  have e1 : segsL (M ++ [x]) o = segsL M o ++ [x] := by rw [segs_snoc, if_pos (by unfold segF; rw [hs, hx]; rfl)]
  have e2 : trN (M ++ [x]) o = trN M o := by rw [trn_snoc, if_neg (by unfold traF; rw [hs, hx]; decide), List.append_nil]
  have hb : Blk w' O 33 (layC o vs vt) := Blk.grown h2.blk hg (fun e => by have := (h.segs.lt _ e.symm).1; omega)
  refine ⟨hb, ⟨hb.set_ 3 vs', ?_, ?_, ?_, hlt⟩⟩
  · rw [e1, List.length_append, sgC_snoc, ← hk, ← hn]
    exact own_set hown hlt _ _
  · rw [e2]
    exact own_set (h2.tras.kept hg (own_ne h2.tras h2.segs (by decide))) hlt _ _
  · exact (kp_grown h2.kp hg (fun k hk => (h2.segs.lt k hk).1)).trans (Kp.setP _ _ _)
theorem ROut.tra {x : Sg} {vt' : Value} (h : ROut w3 wr O R o M vs vt) (hs : isSn o x = false) (hx : (isSR x && geS o x) = false)
    (hown : w'.ownsRow wr.heap.size 9 1 vt' (putN (nmL x) (rTr (trN M o))).length (strC (putN (nmL x) (rTr (trN M o))))) (hb : Below wr.heap.size wr w') :
    ROut w3 (w'.setCell ⟨O, 4, none⟩ vt') O R o (M ++ [x]) vs vt' := by
  have h2 := h.step hb
  have hlt := h.lt
  have e1 : segsL (M ++ [x]) o = segsL M o := by rw [segs_snoc, if_neg (by unfold segF; rw [hs, hx]; decide), List.append_nil]
  have e2 : rTr (trN (M ++ [x]) o) = putN (nmL x) (rTr (trN M o)) := by rw [trn_snoc, if_pos (by unfold traF; rw [hs, hx]; rfl), rTr_snoc]
  refine ⟨h2.blk.set_ 4 vt', ?_, ?_, ?_, hlt⟩
  · rw [e1]; exact own_set h2.segs hlt _ _
  · rw [e2]; exact own_set (own_lower hown h.kp.size) hlt _ _
  · exact h2.kp.trans (Kp.setP _ _ _)
end
set_option maxRecDepth 100000 in
set_option maxHeartbeats 8000000 in
theorem rlay_any {F : List ByteArray} {v : Value} {w : World} (hF : StrsAt w v F) (hl : F.length ≤ 500) : Calls Tryz.prog 8 #[v] w (RLayPost F w) := by
  obtain ⟨i0, hi, hz0, hz1, hz2⟩ := info_parts info_rgRow
  obtain ⟨A, cap, rfl, hc⟩ := hF
  obtain ⟨n, hn⟩ : ∃ n, n = F.length := ⟨_, rfl⟩
  have HN := Lib.hid hn
  rw [← hn] at hl ⊢
  have HC := Lib.hid hc
  clear hc hn
  obtain ⟨W, hW⟩ : ∃ W, W = (w.alloc (.cells (layC none (.slice none 0 0) (.slice none 0 0)) 33)).alloc (.cells (layC none (.slice none 0 0) (.slice none 0 0)) 33) := ⟨_, rfl⟩
  have HW := Lib.hid hW
  have HBW := Lib.hid (show Below w.heap.size w W by rw [hW]; exact (below_box _ _).alloc (by simp) _)
  have BR := Lib.hid (show Blk W w.heap.size 33 (layC none (.slice none 0 0) (.slice none 0 0)) by rw [hW]; exact (Blk.new _ _ _).alloc _)
  have BO := Lib.hid (show Blk W (w.heap.size + 1) 33 (layC none (.slice none 0 0) (.slice none 0 0)) by
    rw [hW]; have := Blk.new (w.alloc (.cells (layC none (.slice none 0 0) (.slice none 0 0)) 33)) 33 (layC none (.slice none 0 0) (.slice none 0 0)); simpa using this)
  have hwW : w.heap.size + 1 < W.heap.size := BO.out.lt
  clear hW
  go_enter Tryz.func8, Tryz.ntmps8
  go_wp2_with fail
  have eW : (w.alloc (.cells #[.int .u8 0, .int .i64 0, .bool false, .slice none 0 0, .slice none 0 0] 33)).alloc (.cells #[.int .u8 0, .int .i64 0, .bool false, .slice none 0 0, .slice none 0 0] 33) = W := HW.out.symm
  rw [eW]
  clear eW
  go_loopw [3, 5] (fun v i wr => ∃ k, k ≤ n ∧ i = .int .i64 (k : Nat) ∧ wr.ownsRow W.heap.size 30 2 v (uq (pkS (F.take k))).length (sgC (uq (pkS (F.take k)))) ∧ Blk wr (w.heap.size + 1) 33 (layC (snF (pkS (F.take k))) (.slice none 0 0) (.slice none 0 0)) ∧ Kp (w.heap.size + 1) (w.heap.size + 1) W wr) (fun _ i _ => n - (intOf i).toNat)
  case atStart => exact ⟨0, Nat.zero_le _, rfl, World.ownsRow_nil _ _ _ _, BO.out, Kp.refl _ _ _⟩
  case round =>
    obtain ⟨k, hk, rfl, hown, hB, hK⟩ := hrel
    have hpl := pkS_len (F.take k)
    have hpl1 := uq_len (pkS (F.take k))
    have hpl2 : (F.take k).length ≤ k := by rw [List.length_take]; omega
    have hWr := hK.size
    by_cases hlk : k < n
    · have hlk' : k < F.length := by rw [← HN.out]; exact hlk
      obtain ⟨g, off, rfl, hg, hcl⟩ := HC.out (by intro h; rw [h] at hlk'; simp at hlk')
      have hps := pkS_snoc F k hlk'
      have c0 : wr.cell? ⟨g, off + k, none⟩ = some (.string F[k]) := (hK.cell (a := ⟨g, off + k, none⟩) (by show g < W.heap.size; omega) (by show g ≠ w.heap.size + 1; omega) (by show g ≠ w.heap.size + 1; omega)).trans ((HBW.out.cell (by exact hg)).trans (hcl k hlk'))
      clear hcl
      generalize F[k] = s at c0 hps
      have OF := fun w => rof_any s w
      unfold ofP at OF
      have hgr : g < wr.heap.size := by omega
      have i0' : (0 : Int) ≤ (k : Int) := by omega
      have i1' : (k : Int) < (n : Int) := by omega
      obtain ⟨L, hL⟩ : ∃ L, L = uq (pkS (F.take k)) := ⟨_, rfl⟩
      obtain ⟨o, ho⟩ : ∃ o, o = snF (pkS (F.take k)) := ⟨_, rfl⟩
      rw [← hL] at hown hpl1
      rw [← ho] at hB
      have HL := Lib.hid hL
      have HO := Lib.hid ho
      have HB := Lib.hid hB
      have HK := Lib.hid hK
      have HOWN := Lib.hid hown
      clear hL ho hB hK hown
      by_cases hb : ofB s.data.toList = true
      · rw [if_pos hb] at hps
        rw [hb] at OF
        clear hb
        unfold sgV at OF
        generalize ofS s.data.toList = x at OF hps
        have HS := Lib.hid (show uq (pkS (F.take (k + 1))) = putS x L by rw [hps, uq_snoc, HL.out])
        have HSO := Lib.hid (show snF (pkS (F.take (k + 1))) = if setC o x = true then some x else o by rw [hps]; exact snF_set HO.out.symm)
        clear hps
        obtain ⟨xk, hxk⟩ : ∃ xk : Int, xk = (x.k.toNat : Nat) := ⟨_, rfl⟩
        obtain ⟨xn, hxn⟩ : ∃ xn : Int, xn = x.n := ⟨_, rfl⟩
        rw [← hxk, ← hxn] at OF
        have PU := fun (w : World) (v : Value) (h : SgRow w v L) => rput_any h (show L.length ≤ 1000 by omega) x
        unfold PutSPost sgV at PU
        rw [← hxk, ← hxn] at PU
        have HXK := Lib.hid hxk
        have HXN := Lib.hid hxn
        clear hxk hxn
        replace OF := Lib.hid OF
        replace PU := Lib.hid PU
        go_wp2_with fail
        refine (OF.out _).mono ?_
        rintro e w1 ⟨rfl, hb1⟩
        obtain ⟨V, hV⟩ : ∃ V, V = w1.alloc (.cells #[.int .u8 xk, .int .i64 xn] 30) := ⟨_, rfl⟩
        have hbV : Below wr.heap.size wr V := by rw [hV]; exact hb1.alloc hb1.size _
        have BX : Blk V w1.heap.size 30 #[.int .u8 xk, .int .i64 xn] := by rw [hV]; exact Blk.new _ _ _
        have hx1 := hb1.size
        have hVr := hbV.size
        have hown1 := ownsRow_below' HOWN.out hbV
        have x0 : V.cell? ⟨w1.heap.size, 0, none⟩ = some (.int .u8 xk) := BX.cell 0
        have x1 : V.cell? ⟨w1.heap.size, 1, none⟩ = some (.int .i64 xn) := BX.cell 1
        have hxV := BX.lt
        go_upto_region 7 with fail
        rw [← hV]
        clear hV
        go_wp2_with fail
        refine (PU.out _ _ (SgRow.own hown1)).mono ?_
        rintro e w2 ⟨v2, rfl, hown2, hb2⟩
        have BX2 := blk_step BX hb2
        have BO2 := blk_step (blk_step HB.out hbV) hb2
        have HK2 := Lib.hid ((HK.out.trans (Kp.of_below hbV)).trans (Kp.of_below hb2))
        have HOW2 := Lib.hid (own_lower hown2 (show W.heap.size ≤ V.heap.size by omega))
        have hx2 : w1.heap.size < w2.heap.size := BX2.lt
        have ho2 : w.heap.size + 1 < w2.heap.size := BO2.lt
        clear x0 x1 BX hb1 hb2 hown1 hown2 hbV
        have x0 : w2.cell? ⟨w1.heap.size, 0, none⟩ = some (.int .u8 xk) := BX2.cell 0
        have x1 : w2.cell? ⟨w1.heap.size, 1, none⟩ = some (.int .i64 xn) := BX2.cell 1
        have HBO := Lib.hid BO2
        clear BX2 BO2
        go_upto_region 9 with fail
        go_cut [46] from 10 to 49 (fun c wx => c = .bool (setC o x) ∧ wx = w2)
        case first =>
          have HX := Lib.hid (show isC x = decide (xk = 99) by unfold isC; rw [HXK.out]; exact decide_eq_decide.2 (by omega))
          cases o with
          | none =>
            have o2 : w2.cell? ⟨w.heap.size + 1, 2, none⟩ = some (.bool false) := HBO.out.cell 2
            by_cases hxc : xk = 99
            · have HS2 := Lib.hid (show setC none x = true by unfold setC; rw [HX.out, decide_eq_true hxc]; rfl)
              subst hxc
              go_wp2
              go_meet
              case rel => exact ⟨by rw [HS2.out], rfl⟩
            · have HS2 := Lib.hid (show setC none x = false by unfold setC; rw [HX.out, decide_eq_false hxc]; rfl)
              have e9 : (xk == 99) = false := by rw [beq_eq_false_iff_ne]; exact hxc
              go_wp2
              go_meet
              case rel => exact ⟨by rw [HS2.out], rfl⟩
          | some t =>
            have o1 : w2.cell? ⟨w.heap.size + 1, 1, none⟩ = some (.int .i64 t.n) := HBO.out.cell 1
            have o2 : w2.cell? ⟨w.heap.size + 1, 2, none⟩ = some (.bool true) := HBO.out.cell 2
            obtain ⟨tn, htn⟩ : ∃ tn, tn = t.n := ⟨_, rfl⟩
            rw [← htn] at o1
            have HTN := Lib.hid htn
            clear htn
            by_cases hxc : xk = 99
            · by_cases hlt : tn < xn
              · have HS2 := Lib.hid (show setC (some t) x = true by unfold setC; rw [HX.out, decide_eq_true hxc]; simp only [Bool.true_and]; rw [← HTN.out, ← HXN.out]; exact decide_eq_true hlt)
                subst hxc
                go_wp2
                go_meet
                case rel => exact ⟨by rw [HS2.out], rfl⟩
              · have HS2 := Lib.hid (show setC (some t) x = false by unfold setC; rw [HX.out, decide_eq_true hxc]; simp only [Bool.true_and]; rw [← HTN.out, ← HXN.out]; exact decide_eq_false hlt)
                have h2 : xn ≤ tn := by omega
                have h3 : decide (tn < xn) = false := decide_eq_false hlt
                subst hxc
                go_wp2
                go_meet
                case rel => exact ⟨by rw [HS2.out], rfl⟩
            · have HS2 := Lib.hid (show setC (some t) x = false by unfold setC; rw [HX.out, decide_eq_false hxc]; rfl)
              have e9 : (xk == 99) = false := by rw [beq_eq_false_iff_ne]; exact hxc
              go_wp2
              go_meet
              case rel => exact ⟨by rw [HS2.out], rfl⟩
        case rest =>
          obtain ⟨rfl, rfl⟩ := hcut
          cases hset : setC o x with
          | true =>
            have HS3 := Lib.hid (show snF (pkS (F.take (k + 1))) = some x by rw [HSO.out, if_pos hset])
            have hsx := Lib.hid (show layC (some x) (.slice none 0 0) (.slice none 0 0) = #[.int .u8 xk, .int .i64 xn, .bool true, .slice none 0 0, .slice none 0 0] by rw [HXK.out, HXN.out]; rfl)
            have f0 := HBO.out.frozen 0
            have f1 := HBO.out.frozen 1
            have f2 := HBO.out.frozen 2
            have o0 : wc.cell? ⟨w.heap.size + 1, 0, none⟩ = some (.int .u8 ((o.getD zS).k.toNat : Nat)) := HBO.out.cell 0
            have o1 : wc.cell? ⟨w.heap.size + 1, 1, none⟩ = some (.int .i64 (o.getD zS).n) := HBO.out.cell 1
            have o2 : wc.cell? ⟨w.heap.size + 1, 2, none⟩ = some (.bool o.isSome) := HBO.out.cell 2
            clear hset
            generalize ((o.getD zS).k.toNat : Int) = a0 at o0
            generalize (o.getD zS).n = a1 at o1
            generalize o.isSome = a2 at o2
            go_wp2
            go_roundw
            case rel =>
              refine ⟨k + 1, by omega, by go_num, ?_, ?_, ?_⟩
              · rw [HS.out]; exact own_set (own_set (own_set HOW2.out hwW _ _) hwW _ _) hwW _ _
              · rw [HS3.out, hsx.out]; exact ((HBO.out.set_ 2 _).set_ 0 _).set_ 1 _
              · exact ((HK2.out.trans (Kp.setP _ _ _)).trans (Kp.setP _ _ _)).trans (Kp.setP _ _ _)
            case measure => simp [intOf]; omega
          | false =>
            have HS3 := Lib.hid (show snF (pkS (F.take (k + 1))) = o by rw [HSO.out, if_neg (by rw [hset]; decide)])
            clear hset
            go_wp2
            go_roundw
            case rel => exact ⟨k + 1, by omega, by go_num, by rw [HS.out]; exact HOW2.out, by rw [HS3.out]; exact HBO.out, HK2.out⟩
            case measure => simp [intOf]; omega
      · rw [if_neg hb, List.append_nil] at hps
        rw [show ofB s.data.toList = false by simpa using hb] at OF
        clear hb
        unfold sgV at OF
        generalize ofS s.data.toList = x at OF
        have HS := Lib.hid hps
        clear hps
        replace OF := Lib.hid OF
        go_wp2_with (go_at_call 36; refine (OF.out _).mono ?_; rintro e w1 ⟨rfl, hb1⟩)
        go_roundw
        case rel =>
          have hbV := hb1.alloc hb1.size (.cells #[.int .u8 x.k.toNat, .int .i64 x.n] 30)
          refine ⟨k + 1, by omega, by go_num, ?_, ?_, HK.out.trans (Kp.of_below hbV)⟩
          · rw [HS.out, ← HL.out]; exact ownsRow_below' HOWN.out hbV
          · rw [HS.out, ← HO.out]; exact blk_step HB.out hbV
        case measure => simp [intOf]; omega
    · obtain rfl : k = n := by omega
      rw [show F.take k = F by rw [HN.out, List.take_length]] at hown hB
      have hpF : (pkS F).length ≤ 500 := by have := pkS_len F; have := HN.out; omega
      clear hpl hpl2 hpl1
      obtain ⟨L, hL⟩ : ∃ L, L = uq (pkS F) := ⟨_, rfl⟩
      have HL := Lib.hid hL
      obtain ⟨o, ho⟩ : ∃ o, o = snF (pkS F) := ⟨_, rfl⟩
      have HO := Lib.hid ho
      have HOK := Lib.hid (show ∀ x ∈ L, okS x = true from fun x hx => by rw [hL, mem_uq] at hx; exact pkS_ok hx)
      have hLn : L.length ≤ 500 := by rw [hL]; exact Nat.le_trans (uq_len _) hpF
      rw [← hL] at hown
      rw [← ho] at hB
      obtain ⟨m, hm⟩ : ∃ m, m = L.length := ⟨_, rfl⟩
      have HM := Lib.hid hm
      obtain ⟨A3, c3, rfl, hc3⟩ := SgRow.own hown
      rw [← hm] at hLn ⊢
      have HC3 := Lib.hid hc3
      have HK3 := Lib.hid hK
      have HBO := Lib.hid hB
      have HOWN := Lib.hid hown
      obtain ⟨w3, hw3⟩ : ∃ w3, w3 = wr := ⟨_, rfl⟩
      subst hw3
      have ho3 : w.heap.size + 1 < w3.heap.size := hB.lt
      have HGB := Lib.hid (show ∀ g off, A3 = some ⟨g, off, none⟩ → W.heap.size ≤ g from fun g off e => by
        have := hown.lt g (by rw [e]; rfl)
        exact this.1)
      clear hL ho hm hown hB hK hc3
      go_wp2_with fail
      go_loopw [8] (fun i wr => ∃ k vs vt, k ≤ m ∧ i = .int .i64 (k : Nat) ∧ ROut w3 wr (w.heap.size + 1) w.heap.size o (L.take k) vs vt) (fun i _ => m - (intOf i).toNat)
      case atStart => exact ⟨0, .slice none 0 0, .slice none 0 0, Nat.zero_le _, rfl, ⟨HBO.out, World.ownsRow_nil _ _ _ _, World.ownsRow_nil _ _ _ _, Kp.refl _ _ _, ho3⟩⟩
      case round =>
        obtain ⟨j, vs, vt, hj, rfl, hO⟩ := hrel
        have hwr3 := hO.kp.size
        by_cases hlj' : j < m
        · have hlj : j < L.length := by rw [← HM.out]; exact hlj'
          obtain ⟨g, off, rfl, hg, hcl⟩ := HC3.out (by intro h; rw [h] at hlj; simp at hlj)
          have hgW := HGB.out g off rfl
          have ht : L.take (j + 1) = L.take j ++ [L[j]] := List.take_succ_eq_append_getElem hlj
          have hgo : g ≠ w.heap.size + 1 := by omega
          have c0 := (hO.kp.cell (a := ⟨g, off + j * 2, none⟩) (by exact hg) (by exact hgo) (by exact hgo)).trans (hcl j hlj).1
          have c1 := (hO.kp.cell (a := ⟨g, off + j * 2 + 1, none⟩) (by exact hg) (by exact hgo) (by exact hgo)).trans (hcl j hlj).2
          clear hcl
          have hok : okS L[j] = true := HOK.out _ (List.getElem_mem hlj)
          have hltk : (L.take j).length ≤ 500 := by rw [List.length_take]; omega
          have hTR : ∀ t ∈ rTr (trN (L.take j) o), t.length ≤ 1000 := by
            intro t ht
            have : ∀ (M : List (List UInt8)) (T : List (List UInt8)), (∀ t ∈ M, t.length ≤ 1000) → (∀ t ∈ T, t.length ≤ 1000) → ∀ t ∈ M.foldl (fun T s => putN s T) T, t.length ≤ 1000 := by
              intro M
              induction M with
              | nil => intro T _ hT; exact hT
              | cons a r ih =>
                intro T hM hT
                refine ih _ (fun t h => hM t (by simp [h])) (fun t h => ?_)
                rcases mem_putN h with rfl | h
                · exact hM _ (by simp)
                · exact hT t h
            refine this _ [] (fun t h => ?_) (fun t h => by cases h) t ht
            unfold trN at h
            rw [List.mem_map] at h
            obtain ⟨a, ha, rfl⟩ := h
            have := nm_len (HOK.out a (List.mem_of_mem_take (List.mem_filter.1 ha).1))
            omega
          have htl : (rTr (trN (L.take j) o)).length ≤ 1000 := Nat.le_trans (rTr_len _) (trn_le _ _ (by omega))
          have hsl : (segsL (L.take j) o).length ≤ 1000 := Nat.le_trans (segs_len _ _) (by omega)
          have PN := fun (w : World) (v : Value) (h : TrRow w v (rTr (trN (L.take j) o))) => rPut_any h htl (nmL L[j]) (by rw [nm_len hok]; decide) hTR
          have NM := fun w => rname_any L[j] w (by have := okS_iff.1 hok; unfold In64; omega)
          unfold PutPost at PN
          clear hTR htl hltk hok
          generalize L[j] = x at c0 c1 ht PN NM
          clear hlj
          unfold sgV at NM
          have PN2 : ∀ (w : World) (v : Value), TrRow w v (rTr (trN (L.take j) o)) → Calls Tryz.prog 38 #[v, .string (nmB x)] w fun e w' => ∃ v', e = .returned v' ∧ w'.ownsRow w.heap.size 9 1 v' (putN (nmL x) (rTr (trN (L.take j) o))).length (strC (putN (nmL x) (rTr (trN (L.take j) o)))) ∧ Below w.heap.size w w' := PN
          replace PN := Lib.hid PN2
          clear PN2
          obtain ⟨xk, hxk⟩ : ∃ xk : Int, xk = (x.k.toNat : Nat) := ⟨_, rfl⟩
          obtain ⟨xn, hxn⟩ : ∃ xn : Int, xn = x.n := ⟨_, rfl⟩
          rw [← hxk, ← hxn] at NM
          rw [← hxk] at c0
          rw [← hxn] at c1
          have HXK := Lib.hid hxk
          have HXN := Lib.hid hxn
          have HT := Lib.hid ht
          replace NM := Lib.hid NM
          clear hxk hxn ht
          obtain ⟨va, vc, rfl⟩ := own_shape hO.segs
          obtain ⟨ta, tc, rfl⟩ := own_shape hO.tras
          have hgr : g < wr.heap.size := by omega
          have i0' : (0 : Int) ≤ (j : Int) := by omega
          have i1' : (j : Int) < (m : Int) := by omega
          obtain ⟨V, hV⟩ : ∃ V, V = wr.alloc (.cells #[.int .u8 xk, .int .i64 xn] 30) := ⟨_, rfl⟩
          have BX : Blk V wr.heap.size 30 #[.int .u8 xk, .int .i64 xn] := by rw [hV]; exact Blk.new _ _ _
          have HO1 := Lib.hid (show ROut w3 V (w.heap.size + 1) w.heap.size o (L.take j) _ _ by rw [hV]; exact hO.alloc _)
          have hVw : wr.heap.size < V.heap.size := BX.lt
          go_upto_region 16 with fail
          rw [← hV]
          clear hV hO c0 c1
          have x0 : V.cell? ⟨wr.heap.size, 0, none⟩ = some (.int .u8 xk) := BX.cell 0
          have x1 : V.cell? ⟨wr.heap.size, 1, none⟩ = some (.int .i64 xn) := BX.cell 1
          go_cut [67] from 50 to 100 (fun c wx => c = .bool (isSn o x) ∧ wx = V)
          case first =>
            cases o with
            | none =>
              have o2 : V.cell? ⟨w.heap.size + 1, 2, none⟩ = some (.bool false) := HO1.out.blk.cell 2
              go_wp2
              go_meet
              case rel => exact ⟨rfl, rfl⟩
            | some t =>
              have o0 : V.cell? ⟨w.heap.size + 1, 0, none⟩ = some (.int .u8 (t.k.toNat : Nat)) := HO1.out.blk.cell 0
              have o1 : V.cell? ⟨w.heap.size + 1, 1, none⟩ = some (.int .i64 t.n) := HO1.out.blk.cell 1
              have o2 : V.cell? ⟨w.heap.size + 1, 2, none⟩ = some (.bool true) := HO1.out.blk.cell 2
              have HI := Lib.hid (show isSn (some t) x = (decide (xk = (t.k.toNat : Int)) && decide (xn = t.n)) by
                unfold isSn
                rw [Bool.eq_iff_iff, eqS_iff, Bool.and_eq_true, decide_eq_true_eq, decide_eq_true_eq, HXK.out, HXN.out]
                exact ⟨fun h => by rw [h]; exact ⟨rfl, rfl⟩, fun h => sg_ext (UInt8.toNat_inj.1 (by omega)) h.2⟩)
              obtain ⟨tk, htk⟩ : ∃ tk : Int, tk = (t.k.toNat : Nat) := ⟨_, rfl⟩
              obtain ⟨tn, htn⟩ : ∃ tn : Int, tn = t.n := ⟨_, rfl⟩
              rw [← htk] at o0 HI
              rw [← htn] at o1 HI
              clear htk htn
              by_cases e1 : xk = tk
              · by_cases e2 : xn = tn
                · have HI2 := Lib.hid (show isSn (some t) x = true by rw [HI.out, decide_eq_true e1, decide_eq_true e2]; rfl)
                  subst e1 e2
                  go_wp2
                  go_meet
                  case rel => exact ⟨by rw [HI2.out], rfl⟩
                · have HI2 := Lib.hid (show isSn (some t) x = false by rw [HI.out, decide_eq_true e1, decide_eq_false e2]; rfl)
                  subst e1
                  have e3 : (xn == tn) = false := by rw [beq_eq_false_iff_ne]; exact e2
                  have e4 : decide (xn = tn) = false := decide_eq_false e2
                  go_wp2
                  go_meet
                  case rel => exact ⟨by rw [HI2.out], rfl⟩
              · have HI2 := Lib.hid (show isSn (some t) x = false by rw [HI.out, decide_eq_false e1]; rfl)
                have e3 : (xk == tk) = false := by rw [beq_eq_false_iff_ne]; exact e1
                have e4 : decide (xk = tk) = false := decide_eq_false e1
                go_wp2
                go_meet
                case rel => exact ⟨by rw [HI2.out], rfl⟩
          case rest =>
            obtain ⟨rfl, rfl⟩ := hcut
            cases hsn : isSn o x with
            | true =>
              have HE := Lib.hid (HO1.out.skip hsn)
              clear hsn
              go_wp2
              go_roundw
              case rel => exact ⟨j + 1, _, _, by omega, by go_num, by rw [HT.out]; exact HE.out⟩
              case measure => simp [intOf]; omega
            | false =>
              have HSN := Lib.hid hsn
              clear hsn
              go_upto_region 17 with fail
              go_cut [88] from 50 to 100 (fun c wx => c = .bool (isSR x && geS o x) ∧ wx = wc)
              case first =>
                have HSR := Lib.hid (show isSR x = (decide (xk = 115) || decide (xk = 114)) by unfold isSR; rw [HXK.out]; congr 1 <;> exact decide_eq_decide.2 (by omega))
                cases o with
                | none =>
                  have o2 : wc.cell? ⟨w.heap.size + 1, 2, none⟩ = some (.bool false) := HO1.out.blk.cell 2
                  by_cases hk1 : xk = 115
                  · have HV := Lib.hid (show (isSR x && geS none x) = true by rw [HSR.out, decide_eq_true hk1]; rfl)
                    subst hk1
                    go_wp2
                    go_meet
                    case rel => exact ⟨by rw [HV.out], rfl⟩
                  by_cases hk2 : xk = 114
                  · have HV := Lib.hid (show (isSR x && geS none x) = true by rw [HSR.out, decide_eq_false hk1, decide_eq_true hk2]; rfl)
                    subst hk2
                    go_wp2
                    go_meet
                    case rel => exact ⟨by rw [HV.out], rfl⟩
                  · have HV := Lib.hid (show (isSR x && geS none x) = false by rw [HSR.out, decide_eq_false hk1, decide_eq_false hk2]; rfl)
                    have d1 : (xk == 115) = false := by rw [beq_eq_false_iff_ne]; exact hk1
                    have d2 : (xk == 114) = false := by rw [beq_eq_false_iff_ne]; exact hk2
                    go_wp2
                    go_meet
                    case rel => exact ⟨by rw [HV.out], rfl⟩
                | some t =>
                  have o1 : wc.cell? ⟨w.heap.size + 1, 1, none⟩ = some (.int .i64 t.n) := HO1.out.blk.cell 1
                  have o2 : wc.cell? ⟨w.heap.size + 1, 2, none⟩ = some (.bool true) := HO1.out.blk.cell 2
                  have HG := Lib.hid (show geS (some t) x = decide (t.n ≤ xn) by unfold geS; rw [HXN.out])
                  obtain ⟨tn, htn⟩ : ∃ tn : Int, tn = t.n := ⟨_, rfl⟩
                  rw [← htn] at o1 HG
                  clear htn
                  by_cases hk1 : xk = 115
                  · by_cases hge : tn ≤ xn
                    · have HV := Lib.hid (show (isSR x && geS (some t) x) = true by rw [HSR.out, decide_eq_true hk1]; rw [HG.out, decide_eq_true hge]; rfl)
                      subst hk1
                      go_wp2
                      go_meet
                      case rel => exact ⟨by rw [HV.out], rfl⟩
                    · have HV := Lib.hid (show (isSR x && geS (some t) x) = false by rw [HSR.out, decide_eq_true hk1]; rw [HG.out, decide_eq_false hge]; rfl)
                      subst hk1
                      have hge2 : xn < tn := by omega
                      have hge3 : decide (tn ≤ xn) = false := decide_eq_false hge
                      go_wp2
                      go_meet
                      case rel => exact ⟨by rw [HV.out], rfl⟩
                  by_cases hk2 : xk = 114
                  · by_cases hge : tn ≤ xn
                    · have HV := Lib.hid (show (isSR x && geS (some t) x) = true by rw [HSR.out, decide_eq_false hk1, decide_eq_true hk2]; rw [HG.out, decide_eq_true hge]; rfl)
                      subst hk2
                      go_wp2
                      go_meet
                      case rel => exact ⟨by rw [HV.out], rfl⟩
                    · have HV := Lib.hid (show (isSR x && geS (some t) x) = false by rw [HSR.out, decide_eq_false hk1, decide_eq_true hk2]; rw [HG.out, decide_eq_false hge]; rfl)
                      subst hk2
                      have hge2 : xn < tn := by omega
                      have hge3 : decide (tn ≤ xn) = false := decide_eq_false hge
                      go_wp2
                      go_meet
                      case rel => exact ⟨by rw [HV.out], rfl⟩
                  · have HV := Lib.hid (show (isSR x && geS (some t) x) = false by rw [HSR.out, decide_eq_false hk1, decide_eq_false hk2]; simp)
                    have d1 : (xk == 115) = false := by rw [beq_eq_false_iff_ne]; exact hk1
                    have d2 : (xk == 114) = false := by rw [beq_eq_false_iff_ne]; exact hk2
                    go_wp2
                    go_meet
                    case rel => exact ⟨by rw [HV.out], rfl⟩
              case rest =>
                obtain ⟨rfl, rfl⟩ := hcut
                cases hsr : (isSR x && geS o x) with
                | true =>
                  have HSR := Lib.hid hsr
                  clear hsr
                  have o3 : wc.cell? ⟨w.heap.size + 1, 3, none⟩ = some (.slice va (segsL (L.take j) o).length vc) := HO1.out.blk.cell 3
                  go_wp2_with (at_builtin; refine wpList_append_own _ rfl _ _ 31 rfl w3.heap.size 30 i0 (.agg #[.int .u8 0, .int .i64 0]) 2 16 Tryz.underlying31 hi hz0 hz1 hz2 rfl (by decide) _ _ _ rfl (HO1.out.segs.alloc _) ⟨wc.heap.size, 0, none⟩ 1 1 [.int .u8 xk, .int .i64 xn] rfl rfl (new_two wc _ _ _ _ rfl) (one_kn xk xn) (by unfold maxLen; omega) (by omega) (by have := HO1.out.kp.size; simp; omega) ?_; intro v' w' hown' hgrow _; obtain ⟨va', vc', rfl⟩ := own_shape hown'; have hO2 := HO1.out.seg HSN.out HSR.out HXK.out HXN.out hown' hgrow; have q3 : w'.cell? ⟨w.heap.size + 1, 3, none⟩ = some (.slice va (segsL (L.take j) o).length vc) := hO2.1.cell 3; have g3 := hO2.1.frozen 3; have HO2 := Lib.hid hO2; clear hO2 hown' hgrow)
                  go_roundw
                  case rel => exact ⟨j + 1, _, _, by omega, by go_num, by rw [HT.out]; exact HO2.out.2⟩
                  case measure => simp [intOf]; omega
                | false =>
                  have HSR := Lib.hid hsr
                  clear hsr
                  go_wp2_with fail
                  refine wp_region_noPanic ?_
                  refine wp_region_held_drew (S := fun w' => Blk w' wr.heap.size 30 #[.int .u8 xk, .int .i64 xn]) (by kernel_rfl) BX (fun hS => ?_)
                  obtain ⟨wd, hwd⟩ : ∃ wd, wd = wc.drew := ⟨_, rfl⟩
                  have HD := Lib.hid (show ROut w3 wd (w.heap.size + 1) w.heap.size o (L.take j) _ _ by rw [hwd]; exact HO1.out.drew)
                  rw [← hwd] at hS ⊢
                  clear hwd x0 x1
                  refine wpAnyH_take (i := 0) (v := ?_) rfl (by kernel_rfl) (by kernel_rfl) (by kernel_rfl) (fun _ _ _ h => h) (Or.inl ⟨by rfl, ?_⟩) hS ?_
                  rotate_left
                  · intro wx hSx
                    go_simp
                    try with_reducible rfl
                  simp only [Act.put, List.getElem_toArray, List.getElem_cons_zero, List.setIfInBounds_toArray, List.set_cons_zero, List.set_cons_succ]
                  refine wpAnyH_take (i := 2) (v := ?_) rfl (by kernel_rfl) (by kernel_rfl) (by kernel_rfl) (fun _ _ _ h => h) (Or.inl ⟨by rfl, ?_⟩) hS ?_
                  rotate_left
                  · intro wx hSx
                    have x0 : wx.cell? ⟨wr.heap.size, 0, none⟩ = some (.int .u8 xk) := Blk.cell hSx 0
                    have x1 : wx.cell? ⟨wr.heap.size, 1, none⟩ = some (.int .i64 xn) := Blk.cell hSx 1
                    go_simp
                    try with_reducible rfl
                  simp only [Act.put, List.getElem_toArray, List.getElem_cons_zero, List.getElem_cons_succ, List.setIfInBounds_toArray, List.set_cons_zero, List.set_cons_succ]
                  refine wpAnyH_ready (rs := [1, 3]) (by kernel_rfl) (by simp) ?_
                  refine AllReadyH.cons rfl (fun K hK => ?_) (AllReadyH.cons rfl (fun K hK => ?_) AllReadyH.nil)
                  · simp only [List.getElem_toArray, List.getElem_cons_zero, List.getElem_cons_succ]
                    have p4 : wd.cell? ⟨w.heap.size + 1, 4, none⟩ = some (.slice ta (rTr (trN (L.take j) o)).length tc) := HD.out.blk.cell 4
                    go_simp
                    refine hK.out _ _ hS (fun hS1 => ?_)
                    clear hK p4
                    refine wpAnyH_ready (rs := [3]) (by kernel_rfl) (by simp) ?_
                    refine AllReadyH.cons rfl (fun K hK => ?_) AllReadyH.nil
                    simp only [List.getElem_toArray, List.getElem_cons_zero, List.getElem_cons_succ]
                    go_simp
                    refine (NM.out _).mono ?_
                    rintro e w2 ⟨rfl, hb2⟩
                    have HE := Lib.hid (HD.out.step hb2)
                    refine hK.out _ _ (blk_step hS1 hb2) (fun hS2 => ?_)
                    clear hK
                    refine wpAnyH_ready (rs := [4]) (by kernel_rfl) (by simp) ?_
                    refine AllReadyH.cons rfl (fun K hK => ?_) AllReadyH.nil
                    simp only [List.getElem_toArray, List.getElem_cons_zero, List.getElem_cons_succ]
                    go_simp
                    refine (PN.out _ _ (TrRow.own HE.out.tras)).mono ?_
                    rintro e w5 ⟨v5, rfl, hown5, hb5⟩
                    obtain ⟨ta5, tc5, rfl⟩ := own_shape hown5
                    have HO2 := Lib.hid (HE.out.tra HSN.out HSR.out hown5 hb5)
                    have hO5 := HE.out.step hb5
                    have q4 : w5.cell? ⟨w.heap.size + 1, 4, none⟩ = some (.slice ta (rTr (trN (L.take j) o)).length tc) := hO5.blk.cell 4
                    have g4 := hO5.blk.frozen 4
                    refine hK.out _ _ (blk_step hS2 hb5) (fun hS4 => ?_)
                    clear hK hown5 hb5 hO5
                    refine wpAnyH_take (i := 5) (v := ?_) rfl (by kernel_rfl) (by kernel_rfl) (by kernel_rfl) (fun _ _ _ h => h) (Or.inl ⟨by rfl, ?_⟩) hS4 ?_
                    rotate_left
                    · intro wx hSx
                      go_simp
                      try with_reducible rfl
                    simp only [Act.put, List.getElem_toArray, List.getElem_cons_zero, List.getElem_cons_succ, List.setIfInBounds_toArray, List.set_cons_zero, List.set_cons_succ]
                    refine wpAnyH_ready (rs := [6]) (by kernel_rfl) (by simp) ?_
                    refine AllReadyH.cons rfl (fun K hK => ?_) AllReadyH.nil
                    simp only [List.getElem_toArray, List.getElem_cons_zero, List.getElem_cons_succ, Act.put]
                    go_simp
                    refine hK.out _ _ (Blk.far hS4 (by simp; omega) _) (fun hS5 => ?_)
                    clear hK
                    refine wpAnyH_done (by kernel_rfl) ?_ _
                    refine NoPanic.normal ?_
                    go_wp2
                    go_roundw
                    case rel => exact ⟨j + 1, _, _, by omega, by go_num, by rw [HT.out]; exact HO2.out⟩
                    case measure => simp [intOf]; omega
                  · simp only [List.getElem_toArray, List.getElem_cons_zero, List.getElem_cons_succ]
                    go_simp
                    refine (NM.out _).mono ?_
                    rintro e w2 ⟨rfl, hb2⟩
                    have HE := Lib.hid (HD.out.step hb2)
                    refine hK.out _ _ (blk_step hS hb2) (fun hS2 => ?_)
                    clear hK
                    refine wpAnyH_ready (rs := [1]) (by kernel_rfl) (by simp) ?_
                    refine AllReadyH.cons rfl (fun K hK => ?_) AllReadyH.nil
                    simp only [List.getElem_toArray, List.getElem_cons_zero, List.getElem_cons_succ]
                    have p4 : w2.cell? ⟨w.heap.size + 1, 4, none⟩ = some (.slice ta (rTr (trN (L.take j) o)).length tc) := HE.out.blk.cell 4
                    go_simp
                    refine hK.out _ _ hS2 (fun hS3 => ?_)
                    clear hK p4
                    refine wpAnyH_ready (rs := [4]) (by kernel_rfl) (by simp) ?_
                    refine AllReadyH.cons rfl (fun K hK => ?_) AllReadyH.nil
                    simp only [List.getElem_toArray, List.getElem_cons_zero, List.getElem_cons_succ]
                    go_simp
                    refine (PN.out _ _ (TrRow.own HE.out.tras)).mono ?_
                    rintro e w5 ⟨v5, rfl, hown5, hb5⟩
                    obtain ⟨ta5, tc5, rfl⟩ := own_shape hown5
                    have HO2 := Lib.hid (HE.out.tra HSN.out HSR.out hown5 hb5)
                    have hO5 := HE.out.step hb5
                    have q4 : w5.cell? ⟨w.heap.size + 1, 4, none⟩ = some (.slice ta (rTr (trN (L.take j) o)).length tc) := hO5.blk.cell 4
                    have g4 := hO5.blk.frozen 4
                    refine hK.out _ _ (blk_step hS3 hb5) (fun hS4 => ?_)
                    clear hK hown5 hb5 hO5
                    refine wpAnyH_take (i := 5) (v := ?_) rfl (by kernel_rfl) (by kernel_rfl) (by kernel_rfl) (fun _ _ _ h => h) (Or.inl ⟨by rfl, ?_⟩) hS4 ?_
                    rotate_left
                    · intro wx hSx
                      go_simp
                      try with_reducible rfl
                    simp only [Act.put, List.getElem_toArray, List.getElem_cons_zero, List.getElem_cons_succ, List.setIfInBounds_toArray, List.set_cons_zero, List.set_cons_succ]
                    refine wpAnyH_ready (rs := [6]) (by kernel_rfl) (by simp) ?_
                    refine AllReadyH.cons rfl (fun K hK => ?_) AllReadyH.nil
                    simp only [List.getElem_toArray, List.getElem_cons_zero, List.getElem_cons_succ, Act.put]
                    go_simp
                    refine hK.out _ _ (Blk.far hS4 (by simp; omega) _) (fun hS5 => ?_)
                    clear hK
                    refine wpAnyH_done (by kernel_rfl) ?_ _
                    refine NoPanic.normal ?_
                    go_wp2
                    go_roundw
                    case rel => exact ⟨j + 1, _, _, by omega, by go_num, by rw [HT.out]; exact HO2.out⟩
                    case measure => simp [intOf]; omega
        · obtain rfl : m = j := by omega
          rw [show L.take m = L by rw [HM.out, List.take_length]] at hO
          obtain ⟨va, vc, rfl⟩ := own_shape hO.segs
          obtain ⟨ta, tc, rfl⟩ := own_shape hO.tras
          have o0 : wr.cell? ⟨w.heap.size + 1, 0, none⟩ = some (.int .u8 ((o.getD zS).k.toNat : Nat)) := hO.blk.cell 0
          have o1 : wr.cell? ⟨w.heap.size + 1, 1, none⟩ = some (.int .i64 (o.getD zS).n) := hO.blk.cell 1
          have o2 : wr.cell? ⟨w.heap.size + 1, 2, none⟩ = some (.bool o.isSome) := hO.blk.cell 2
          have o3 : wr.cell? ⟨w.heap.size + 1, 3, none⟩ = some (.slice va (segsL L o).length vc) := hO.blk.cell 3
          have o4 : wr.cell? ⟨w.heap.size + 1, 4, none⟩ = some (.slice ta (rTr (trN L o)).length tc) := hO.blk.cell 4
          have KW := Lib.hid (HK3.out.trans hO.kp)
          have BR5 := KW.out.blk BR.out (by omega) (by omega)
          have r0 : wr.cell? ⟨w.heap.size, 0, none⟩ = some (.int .u8 0) := BR5.cell 0
          have r1 : wr.cell? ⟨w.heap.size, 1, none⟩ = some (.int .i64 0) := BR5.cell 1
          have r2 : wr.cell? ⟨w.heap.size, 2, none⟩ = some (.bool false) := BR5.cell 2
          have r3 : wr.cell? ⟨w.heap.size, 3, none⟩ = some (.slice none 0 0) := BR5.cell 3
          have r4 : wr.cell? ⟨w.heap.size, 4, none⟩ = some (.slice none 0 0) := BR5.cell 4
          have f0 := BR5.frozen 0
          have f1 := BR5.frozen 1
          have f2 := BR5.frozen 2
          have f3 := BR5.frozen 3
          have f4 := BR5.frozen 4
          have HR5 := Lib.hid BR5
          have HOF := Lib.hid hO
          have hbw : Below w.heap.size w wr := HBW.out.trans (KW.out.below (by omega) (by omega) HBW.out.size)
          have HBw := Lib.hid hbw
          clear BR5 hO hbw
          go_wp2_with fail
          refine bodyPost_ret (results_row1 (p := 2) rfl _ _ _ _ _ _ _ rfl (five_setR HR5.out o _ _) Tryz.underlying33 rfl info_rlay) rfl ?_
          have hrl : w.heap.size < w3.heap.size := by omega
          unfold RLayPost
          rw [← HL.out, ← HO.out]
          refine ⟨_, _, rfl, own_lower (own_five HOF.out.segs hrl _ _ _ _ _) (by omega), own_lower (own_five HOF.out.tras hrl _ _ _ _ _) (by omega), below_five HBw.out (Nat.le_refl _) _ _ _ _ _⟩
end SgM
end Go.Proofs.YtefknfbmphdafaaGreat
