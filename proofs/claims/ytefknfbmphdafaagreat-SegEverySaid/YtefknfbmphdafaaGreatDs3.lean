/- What the log leans on: Ds3. -/
import Derived.Test.YtefknfbmphdafaaGreatDs2
import Derived.ProofKit
import Derived.OpenShut
import Derived.SizedLaws
import Derived.Deep.Slices
namespace Go.Proofs.YtefknfbmphdafaaGreat.Ds
open Go.RowKit Go.Maps DkM

def atJ (S : Dk) (A : List Fl) (j : Nat) : Dk := { S with L := A ++ S.L.drop j, used := (usd (A ++ S.L.drop j) : Nat) }
theorem atJ_zero {S : Dk} (B : Bd S) : atJ S [] 0 = S := by
  have := B.used
  cases S
  unfold atJ
  simp at this ⊢
  exact this.symm
def CrashPost (S : Dk) (ks : List Int) (p b : Nat) (w : World) (e : Ending) (w' : World) : Prop := e = .returned (.tuple #[]) ∧ DiskAt w' p b (doCr S ks) ∧ Kp p b w w'
section
variable {w : World} {p b : Nat} {S : Dk}

set_option maxRecDepth 100000 in
set_option maxHeartbeats 4000000 in
theorem crash_any (h : DiskAt w p b S) (B : Bd S) (hnm : ∀ f ∈ S.L, f.n.size ≤ maxLen) {ks0 : List Int} {kb : Nat} {K0 : Value} (hK : IntsAt w kb ks0 K0) (hkb : 0 < ks0.length → kb < w.heap.size ∧ kb ≠ p ∧ kb ≠ b) (hkw : ∀ x ∈ ks0, -9223372036854775808 ≤ x ∧ x ≤ 9223372036854775807) :
    Calls Tryz.prog 80 #[ptr p, K0] w (CrashPost S ks0 p b w) := by
  have hp := h.blk.lt
  have hbb := h.own.lt
  have HF := Lib.hid (files_any h B)
  have hD := Lib.hid h
  have HB := Lib.hid B
  have hlen := B.len
  obtain ⟨KA, kcap, rfl, hkl, hkc⟩ := hK
  have hKI : IntsAt w kb ks0 (.slice KA ks0.length kcap) := ⟨KA, kcap, rfl, hkl, hkc⟩
  have HKI := Lib.hid hKI
  clear h B hkl hkc hKI
  replace hkb := Lib.hid hkb
  replace hkw := Lib.hid hkw
  replace hnm := Lib.hid hnm
  go_enter Tryz.func80, Tryz.ntmps80
  go_wp2_with fail
  refine HF.out.mono ?_
  rintro e w1 ⟨v, rfl, hN, hb1⟩
  obtain ⟨NA, ncap, rfl, hNA⟩ := hN
  have HNA := Lib.hid hNA
  clear hNA
  go_wp2_with fail
  go_loopw [1, 12] (fun k i wr => ∃ (j : Nat) (A : List Fl) (ks : List Int), j ≤ S.L.length ∧ CrAt S.L ks0 j A ks ∧ (∀ x ∈ ks, x ∈ ks0) ∧ ks.length ≤ ks0.length ∧ i = .int .i64 j ∧ IntsAt wr kb ks k ∧ DiskAt wr p b (atJ S A j) ∧ Kp p b w1 wr) (fun _ i _ => S.L.length - (intOf i).toNat)
  case atStart =>
    refine ⟨0, [], ks0, Nat.zero_le _, CrAt.start HB.out.rise, fun _ h => h, Nat.le_refl _, rfl, HKI.out.keep (fun h => hb1.block kb (hkb.out h).1), ?_, Kp.refl _ _ _⟩
    rw [atJ_zero HB.out]
    exact hD.out.belowS hb1
  case round =>
    obtain ⟨j, A, ks, hj, hC, hks, hkl, rfl, hI, hDj, hKp⟩ := hrel
    obtain ⟨KA, cap, rfl, hkc, hIc⟩ := hI
    have HI := Lib.hid hIc
    have HD := Lib.hid hDj
    have HC := Lib.hid hC
    have HS := Lib.hid hks
    clear hIc hDj hC hks
    obtain ⟨lt, c0, -, c2, c3, -, -, c6⟩ := HD.out.cells
    have f3 := HD.out.blk.frozen 3
    have f2 := HD.out.blk.frozen 2
    have f6 := HD.out.blk.frozen 6
    by_cases hlt : j < S.L.length
    · clear c2 c6
      obtain ⟨g, rfl, hg1, hg2, hgc⟩ := HNA.out (by omega)
      obtain ⟨f, hf⟩ : ∃ f, f = S.L[j] := ⟨_, rfl⟩
      have nm : wr.cell? ⟨g, j, none⟩ = some (.string f.n) := by
        rw [hf]
        exact (hKp.cell (by exact hg2) (by simp; omega) (by simp; omega)).trans (hgc j hlt)
      have HL := Lib.hid (show lkF (A ++ S.L.drop j) f.n = some f by rw [hf]; exact HC.out.look hlt)
      have HFN := Lib.hid (show f.n.size ≤ maxLen by rw [hf]; exact hnm.out _ (List.getElem_mem _))
      have hfs : f.s.size + f.l.size ≤ usd (A ++ S.L.drop j) := usd_le (lkF_some HL.out).1
      have HF2 := Lib.hid hf
      clear hf hgc
      have hus : usd (A ++ S.L.drop j) ≤ 1073741824 := by have := HC.out.less; have := HB.out.used1; omega
      obtain ⟨U, hU⟩ : ∃ U, U = usd (A ++ S.L.drop j) := ⟨_, rfl⟩
      have c3' : wr.cell? ⟨p, 3, none⟩ = some (.int .i64 (U : Nat)) := by rw [c3, hU]; rfl
      rw [← hU] at hfs hus
      have HU := Lib.hid hU
      clear hU c3
      by_cases hl0 : f.l.size = 0
      · have HR := Lib.hid (HC.out.skip hlt (by rw [← HF2.out]; exact hl0))
        go_wp2_with (at_lookup; refine wpList_look _ rfl _ _ rfl b (A ++ S.L.drop j) f.n rfl HD.out.own rfl HFN.out ?_; rw [HL.out]; unfold orV flB flN; simp only [])
        go_roundw
        case rel =>
          refine ⟨j + 1, A ++ [S.L[j]], ks, by omega, HR.out, HS.out, hkl, by go_num, ?_, ?_, hKp.trans (Kp.alloc _ _)⟩
          · exact IntsAt.keep (w := wr) ⟨KA, cap, rfl, hkc, HI.out⟩ (fun h => Below.heap_alloc _ _ _ (by have := (hkb.out (by omega)).1; have := hb1.size; have := hKp.size; omega))
          · have e : atJ S (A ++ [S.L[j]]) (j + 1) = atJ S A j := by
              unfold atJ
              rw [List.drop_eq_getElem_cons hlt]
              simp
            rw [e]
            exact HD.out.alloc _
        case measure => simp [intOf]; omega
      · have hne : ((f.s.size : Int) + (f.l.size : Int) == (f.s.size : Int)) = false := by rw [beq_eq_false_iff_ne]; omega
        cases ks with
        | nil =>
          go_wp2_with (at_lookup; refine wpList_look _ rfl _ _ rfl b (A ++ S.L.drop j) f.n rfl HD.out.own rfl HFN.out ?_; rw [HL.out]; unfold orV flB flN; simp only [])
          obtain ⟨W, hW⟩ : ∃ W, W = wr.alloc (.cells #[.string (f.s ++ f.l), .int .i64 (f.s.size : Nat)] 101) := ⟨_, rfl⟩
          have DW : DiskAt W p b (atJ S A j) := by rw [hW]; exact HD.out.alloc _
          have KW : Kp p b wr W := by rw [hW]; exact Kp.alloc _ _
          have q0 : W.cell? ⟨wr.heap.size, 0, none⟩ = some (.string (f.s ++ f.l)) := by rw [hW]; simp
          have q1 : W.cell? ⟨wr.heap.size, 1, none⟩ = some (.int .i64 (f.s.size : Nat)) := by rw [hW]; simp
          have hWs : wr.heap.size < W.heap.size := cell_lt q0
          obtain ⟨ltW, d0, -, -, d3, -⟩ := DW.cells
          have e3 := DW.blk.frozen 3
          have d3' : W.cell? ⟨p, 3, none⟩ = some (.int .i64 (U : Nat)) := by rw [d3, HU.out]; rfl

          rw [← hW]
          have HDW := Lib.hid DW
          have HKW := Lib.hid KW
          clear hW DW KW d3 c0 c3' f3 f2 f6 nm lt
          have hn := HC.out.next hlt (by rw [← HF2.out]; exact hl0)
          simp only [List.headD_nil, List.tail_nil] at hn
          rw [← HF2.out] at hn
          obtain ⟨hn1, hn2, hn3⟩ := hn
          have HLN := Lib.hid (show (A ++ S.L.drop j).length < maxLen by rw [HC.out.lenL hj]; exact ml hlen)
          have HDS := Lib.hid (HDW.out.set3 ((U : Int) - ((f.s.size : Nat) + (f.l.size : Nat) - (f.s.size : Nat)))).drew
          have HE := Lib.hid (show ({ atJ S A j with used := (U : Int) - ((f.s.size : Nat) + (f.l.size : Nat) - (f.s.size : Nat)), L := putF (A ++ S.L.drop j) (crO f 0) } : Dk) = atJ S (A ++ [crO f 0]) (j + 1) by
            unfold atJ
            rw [hn2]
            have hc0 : clK f.l.size 0 = 0 := by unfold clK; simp
            rw [hc0, ← HU.out] at hn3
            have hu : (U : Int) - ((f.s.size : Nat) + (f.l.size : Nat) - (f.s.size : Nat)) = (usd (A ++ [crO f 0] ++ S.L.drop (j + 1)) : Nat) := by omega
            rw [hu])
          have HN := Lib.hid hn1
          clear hn1 hn2 hn3
          go_still_tail 15, (by kernel_rfl)
          go_wp2_with (at_mapUpdate; refine wpList_putF _ rfl _ _ _ rfl b (A ++ S.L.drop j) f.n (crO f 0) rfl HDS.out.own HLN.out rfl file_cr0 rfl HFN.out ?_; intro w5 ho ht)
          have KS : Kp p b wr w5 := HKW.out.trans (((Kp.drew _).trans (Kp.setP _ _ _)).trans (Kp.turned ht))
          have DS := DiskAt.turned HDS.out ho ht
          go_roundw
          case rel =>
            refine ⟨j + 1, A ++ [crO f 0], [], by omega, HN.out, fun x h => absurd h (by simp), Nat.zero_le _, by go_num, IntsAt.none_ _ _ _ _, ?_, hKp.trans KS⟩
            have e := HE.out
            rw [← e]
            exact DS
          case measure => simp [intOf]; omega
        | cons x ks =>
          obtain ⟨ko, rfl, hx⟩ := HI.out (by simp)
          have hx0 := hx 0 (by simp)
          simp only [List.getElem_cons_zero, Nat.add_zero] at hx0
          obtain ⟨m, hm⟩ : ∃ m, m = clK f.l.size x := ⟨_, rfl⟩
          have hkx := hkw.out x (HS.out x (by simp))
          have hk0 := hkx.1
          have hk1 := hkx.2
          obtain ⟨y, hy⟩ : ∃ y : Nat, max x 0 = (y : Int) := ⟨x.toNat, by omega⟩
          have hmin : min (y : Int) ((f.s.size : Int) + (f.l.size : Int) - (f.s.size : Int)) = (m : Int) := by rw [hm]; unfold clK; omega
          have hml : m ≤ f.l.size := by rw [hm]; unfold clK; omega
          have HX := Lib.hid hx
          have HMM := Lib.hid hm
          have hkb0 := hkb.out (by simp at hkl; omega)
          have hc1 : ks.length + 1 ≤ cap := by simpa using hkc
          have hi1 : (1 : Int) ≤ (ks.length : Int) + 1 := by omega
          have hi2 : (ks.length : Int) + 1 ≤ (cap : Int) := by omega
          have hi3 : (1 : Int) ≤ (cap : Int) := by omega
          have hin0 : (0 : Int) < (ks.length : Int) + 1 := by omega
          have HC1 := Lib.hid (show (x :: ks).length ≤ cap from hkc)
          clear hx hm hkx hkc
          by_cases hcap : cap = 1
          · obtain rfl := hcap
            go_wp2_with (at_lookup; refine wpList_look _ rfl _ _ rfl b (A ++ S.L.drop j) f.n rfl HD.out.own rfl HFN.out ?_; rw [HL.out]; unfold orV flB flN; simp only [])
            obtain ⟨W, hW⟩ : ∃ W, W = wr.alloc (.cells #[.string (f.s ++ f.l), .int .i64 (f.s.size : Nat)] 101) := ⟨_, rfl⟩
            have DW : DiskAt W p b (atJ S A j) := by rw [hW]; exact HD.out.alloc _
            have KW : Kp p b wr W := by rw [hW]; exact Kp.alloc _ _
            have q0 : W.cell? ⟨wr.heap.size, 0, none⟩ = some (.string (f.s ++ f.l)) := by rw [hW]; simp
            have q1 : W.cell? ⟨wr.heap.size, 1, none⟩ = some (.int .i64 (f.s.size : Nat)) := by rw [hW]; simp
            have hWs : wr.heap.size < W.heap.size := cell_lt q0
            obtain ⟨ltW, d0, -, -, d3, -⟩ := DW.cells
            have e3 := DW.blk.frozen 3
            have d3' : W.cell? ⟨p, 3, none⟩ = some (.int .i64 (U : Nat)) := by rw [d3, HU.out]; rfl
            have x0 : W.cell? ⟨kb, ko, none⟩ = some (.int .i64 x) := (KW.cell (by exact cell_lt hx0) (by exact hkb0.2.1) (by exact hkb0.2.2)).trans hx0
            rw [← hW]
            have HDW := Lib.hid DW
            have HKW := Lib.hid KW
            clear hx0 hW DW KW d3 c0 c3' f3 f2 f6 nm lt
            go_quiet (fail)
            go_wp2_with fail
            obtain ⟨V, hV⟩ : ∃ V, V = W.drewN nq := ⟨_, rfl⟩
            have DV : DiskAt V p b (atJ S A j) := by rw [hV]; exact HDW.out.drewN nq
            have KV : Kp p b wr V := by rw [hV]; exact HKW.out.trans (Kp.drewN _ _)
            have v0 : V.cell? ⟨wr.heap.size, 0, none⟩ = some (.string (f.s ++ f.l)) := by rw [hV]; exact q0
            have v1 : V.cell? ⟨wr.heap.size, 1, none⟩ = some (.int .i64 (f.s.size : Nat)) := by rw [hV]; exact q1
            have v3 : V.cell? ⟨p, 3, none⟩ = some (.int .i64 (U : Nat)) := by rw [hV]; exact d3'
            have g3 := DV.blk.frozen 3
            have u0 : V.cell? ⟨p, 0, none⟩ = some (.map (some b)) := by rw [hV]; exact d0
            have hVs : wr.heap.size < V.heap.size := cell_lt v0
            have ltV : p < V.heap.size := cell_lt u0
            rw [← hV]
            have HDV := Lib.hid DV
            have HKV := Lib.hid KV
            clear hV DV KV q0 q1 d3' e3 d0 hWs ltW x0
            have hn := HC.out.next hlt (by rw [← HF2.out]; exact hl0)
            simp only [List.headD_cons, List.tail_cons] at hn
            rw [← HF2.out] at hn
            obtain ⟨hn1, hn2, hn3⟩ := hn
            have HLN := Lib.hid (show (A ++ S.L.drop j).length < maxLen by rw [HC.out.lenL hj]; exact ml hlen)
            have HDS := Lib.hid (HDV.out.set3 ((U : Int) - ((f.s.size : Nat) + (f.l.size : Nat) - (f.s.size : Nat) - (m : Nat)))).drew
            have HE := Lib.hid (show ({ atJ S A j with used := (U : Int) - ((f.s.size : Nat) + (f.l.size : Nat) - (f.s.size : Nat) - (m : Nat)), L := putF (A ++ S.L.drop j) (crO f x) } : Dk) = atJ S (A ++ [crO f x]) (j + 1) by
              unfold atJ
              rw [hn2]
              rw [← HMM.out, ← HU.out] at hn3
              have hu : (U : Int) - ((f.s.size : Nat) + (f.l.size : Nat) - (f.s.size : Nat) - (m : Nat)) = (usd (A ++ [crO f x] ++ S.L.drop (j + 1)) : Nat) := by omega
              rw [hu])
            have HN := Lib.hid hn1
            clear hn1 hn2 hn3
            go_still_tail 15, (by kernel_rfl)
            go_wp2_with (at_mapUpdate; refine wpList_putF _ rfl _ _ _ rfl b (A ++ S.L.drop j) f.n (crO f x) rfl HDS.out.own HLN.out rfl (file_cr HMM.out) rfl HFN.out ?_; intro w5 ho ht)
            have KS : Kp p b wr w5 := HKV.out.trans (((Kp.drew _).trans (Kp.setP _ _ _)).trans (Kp.turned ht))
            have DS := DiskAt.turned HDS.out ho ht
            go_roundw
            case rel =>
              refine ⟨j + 1, A ++ [crO f x], ks, by omega, HN.out, fun y hy => HS.out y (by simp [hy]), by simp at hkl; omega, by go_num, ?_, ?_, hKp.trans KS⟩
              · obtain rfl : ks = [] := List.eq_nil_of_length_eq_zero (by omega)
                exact IntsAt.none_ _ _ _ _
              · have e := HE.out
                rw [← e]
                exact DS
            case measure => simp [intOf]; omega
          · have hcap2 : 1 < cap := by omega
            go_wp2_with (at_lookup; refine wpList_look _ rfl _ _ rfl b (A ++ S.L.drop j) f.n rfl HD.out.own rfl HFN.out ?_; rw [HL.out]; unfold orV flB flN; simp only [])
            obtain ⟨W, hW⟩ : ∃ W, W = wr.alloc (.cells #[.string (f.s ++ f.l), .int .i64 (f.s.size : Nat)] 101) := ⟨_, rfl⟩
            have DW : DiskAt W p b (atJ S A j) := by rw [hW]; exact HD.out.alloc _
            have KW : Kp p b wr W := by rw [hW]; exact Kp.alloc _ _
            have q0 : W.cell? ⟨wr.heap.size, 0, none⟩ = some (.string (f.s ++ f.l)) := by rw [hW]; simp
            have q1 : W.cell? ⟨wr.heap.size, 1, none⟩ = some (.int .i64 (f.s.size : Nat)) := by rw [hW]; simp
            have hWs : wr.heap.size < W.heap.size := cell_lt q0
            obtain ⟨ltW, d0, -, -, d3, -⟩ := DW.cells
            have e3 := DW.blk.frozen 3
            have d3' : W.cell? ⟨p, 3, none⟩ = some (.int .i64 (U : Nat)) := by rw [d3, HU.out]; rfl
            have x0 : W.cell? ⟨kb, ko, none⟩ = some (.int .i64 x) := (KW.cell (by exact cell_lt hx0) (by exact hkb0.2.1) (by exact hkb0.2.2)).trans hx0
            rw [← hW]
            have HDW := Lib.hid DW
            have HKW := Lib.hid KW
            clear hx0 hW DW KW d3 c0 c3' f3 f2 f6 nm lt
            go_quiet (fail)
            go_wp2_with fail
            obtain ⟨V, hV⟩ : ∃ V, V = W.drewN nq := ⟨_, rfl⟩
            have DV : DiskAt V p b (atJ S A j) := by rw [hV]; exact HDW.out.drewN nq
            have KV : Kp p b wr V := by rw [hV]; exact HKW.out.trans (Kp.drewN _ _)
            have v0 : V.cell? ⟨wr.heap.size, 0, none⟩ = some (.string (f.s ++ f.l)) := by rw [hV]; exact q0
            have v1 : V.cell? ⟨wr.heap.size, 1, none⟩ = some (.int .i64 (f.s.size : Nat)) := by rw [hV]; exact q1
            have v3 : V.cell? ⟨p, 3, none⟩ = some (.int .i64 (U : Nat)) := by rw [hV]; exact d3'
            have g3 := DV.blk.frozen 3
            have u0 : V.cell? ⟨p, 0, none⟩ = some (.map (some b)) := by rw [hV]; exact d0
            have hVs : wr.heap.size < V.heap.size := cell_lt v0
            have ltV : p < V.heap.size := cell_lt u0
            rw [← hV]
            have HDV := Lib.hid DV
            have HKV := Lib.hid KV
            clear hV DV KV q0 q1 d3' e3 d0 hWs ltW x0
            have hn := HC.out.next hlt (by rw [← HF2.out]; exact hl0)
            simp only [List.headD_cons, List.tail_cons] at hn
            rw [← HF2.out] at hn
            obtain ⟨hn1, hn2, hn3⟩ := hn
            have HLN := Lib.hid (show (A ++ S.L.drop j).length < maxLen by rw [HC.out.lenL hj]; exact ml hlen)
            have HDS := Lib.hid (HDV.out.set3 ((U : Int) - ((f.s.size : Nat) + (f.l.size : Nat) - (f.s.size : Nat) - (m : Nat)))).drew
            have HE := Lib.hid (show ({ atJ S A j with used := (U : Int) - ((f.s.size : Nat) + (f.l.size : Nat) - (f.s.size : Nat) - (m : Nat)), L := putF (A ++ S.L.drop j) (crO f x) } : Dk) = atJ S (A ++ [crO f x]) (j + 1) by
              unfold atJ
              rw [hn2]
              rw [← HMM.out, ← HU.out] at hn3
              have hu : (U : Int) - ((f.s.size : Nat) + (f.l.size : Nat) - (f.s.size : Nat) - (m : Nat)) = (usd (A ++ [crO f x] ++ S.L.drop (j + 1)) : Nat) := by omega
              rw [hu])
            have HN := Lib.hid hn1
            clear hn1 hn2 hn3
            go_still_tail 15, (by kernel_rfl)
            go_wp2_with (at_mapUpdate; refine wpList_putF _ rfl _ _ _ rfl b (A ++ S.L.drop j) f.n (crO f x) rfl HDS.out.own HLN.out rfl (file_cr HMM.out) rfl HFN.out ?_; intro w5 ho ht)
            have KS : Kp p b wr w5 := HKV.out.trans (((Kp.drew _).trans (Kp.setP _ _ _)).trans (Kp.turned ht))
            have DS := DiskAt.turned HDS.out ho ht
            go_roundw
            case rel =>
              refine ⟨j + 1, A ++ [crO f x], ks, by omega, HN.out, fun y hy => HS.out y (by simp [hy]), by simp at hkl; omega, by go_num, ?_, ?_, hKp.trans KS⟩
              · exact IntsAt.keep (w := wr) (IntsAt.tail HC1.out HX.out _ (fun _ => rfl)) (fun _ => KS.block kb (by have := hkb0.1; have := hb1.size; have := hKp.size; omega) hkb0.2.1 hkb0.2.2)
              · have e := HE.out
                rw [← e]
                exact DS
            case measure => simp [intOf]; omega
    · have hje : j = S.L.length := by omega
      have HDn := Lib.hid (HC.out.done hje)
      go_wp2
      go_end0
      refine ⟨rfl, ?_, ((Kp.of_below hb1).trans hKp).trans ((Kp.setP _ _ _).trans (Kp.setP _ _ _))⟩
      have e : ({ atJ S A j with down := false, fuse := -1 } : Dk) = doCr S ks0 := by
        unfold atJ doCr
        rw [HDn.out]
      rw [← e]
      exact (HD.out.set6 _).set2 _
end
end Go.Proofs.YtefknfbmphdafaaGreat.Ds
namespace Go.Proofs.YtefknfbmphdafaaGreat.Ds
open Go.RowKit Go.Maps DkM

abbrev sA : ByteArray := ⟨#[97]⟩
abbrev sB : ByteArray := ⟨#[98]⟩
abbrev sAB : ByteArray := ⟨#[97, 98]⟩
abbrev sCD : ByteArray := ⟨#[99, 100]⟩
abbrev sLong : ByteArray := ⟨#[48, 49, 50, 51, 52, 53, 54, 55, 56, 57, 48, 49, 50, 51, 52, 53, 54, 55, 56]⟩
def A0 : Dk := newS 20
def A1 : Dk := (doC A0 sA).1
def A2 : Dk := (doA A1 sA sAB).1
def A3 : Dk := (doS A2 sA).1
def A4 : Dk := (doA A3 sA sCD).1
def A5 : Dk := { A4 with fuse := 0 }
def A6 : Dk := { A5 with down := true }
def A7 : Dk := doCr A6 [1]
def A8 : Dk := { A7 with reads := 1 }
def A9 : Dk := (doR A8 sA sB).1
theorem a1 : doC A0 sA = (A1, 0) := by kernel_rfl
theorem a2 : doA A1 sA sAB = (A2, 0) := by kernel_rfl
theorem a3 : doS A2 sA = (A3, 0) := by kernel_rfl
theorem a4 : doA A3 sA sCD = (A4, 0) := by kernel_rfl
theorem a5 : doA A4 sA sLong = (A4, 52) := by kernel_rfl
theorem a6 : doS A5 sA = (A6, 50) := by kernel_rfl
theorem a7 : rdS A6 sA 0 = (nul, 50) := by kernel_rfl
theorem a8 : rdS A7 sA 1 = (⟨#[98, 99]⟩, 0) := by kernel_rfl
theorem a9 : doR A8 sA sB = (A9, 0) := by kernel_rfl
theorem a10 : doD A9 sA = (A9, 51) := by kernel_rfl
theorem a11 : (doD A9 sB).2 = 0 := by kernel_rfl
theorem a12 : lkF A8.L sA = some ⟨sA, ⟨#[97, 98, 99]⟩, nul⟩ := by kernel_rfl
theorem a13 : lkF A6.L sA = some ⟨sA, sAB, sCD⟩ := by kernel_rfl
theorem a14 : A8.L.length = 1 := by kernel_rfl
theorem bd0 : Bd A0 := ⟨by decide +kernel, by decide +kernel, by decide +kernel, by decide +kernel, by decide +kernel, by decide +kernel, by decide +kernel, by decide +kernel, by decide +kernel, by decide +kernel, by decide +kernel, by unfold Rise; decide +kernel⟩
theorem bd1 : Bd A1 := ⟨by decide +kernel, by decide +kernel, by decide +kernel, by decide +kernel, by decide +kernel, by decide +kernel, by decide +kernel, by decide +kernel, by decide +kernel, by decide +kernel, by decide +kernel, by unfold Rise; decide +kernel⟩
theorem bd2 : Bd A2 := ⟨by decide +kernel, by decide +kernel, by decide +kernel, by decide +kernel, by decide +kernel, by decide +kernel, by decide +kernel, by decide +kernel, by decide +kernel, by decide +kernel, by decide +kernel, by unfold Rise; decide +kernel⟩
theorem bd3 : Bd A3 := ⟨by decide +kernel, by decide +kernel, by decide +kernel, by decide +kernel, by decide +kernel, by decide +kernel, by decide +kernel, by decide +kernel, by decide +kernel, by decide +kernel, by decide +kernel, by unfold Rise; decide +kernel⟩
theorem bd4 : Bd A4 := ⟨by decide +kernel, by decide +kernel, by decide +kernel, by decide +kernel, by decide +kernel, by decide +kernel, by decide +kernel, by decide +kernel, by decide +kernel, by decide +kernel, by decide +kernel, by unfold Rise; decide +kernel⟩
theorem bd5 : Bd A5 := ⟨by decide +kernel, by decide +kernel, by decide +kernel, by decide +kernel, by decide +kernel, by decide +kernel, by decide +kernel, by decide +kernel, by decide +kernel, by decide +kernel, by decide +kernel, by unfold Rise; decide +kernel⟩
theorem bd6 : Bd A6 := ⟨by decide +kernel, by decide +kernel, by decide +kernel, by decide +kernel, by decide +kernel, by decide +kernel, by decide +kernel, by decide +kernel, by decide +kernel, by decide +kernel, by decide +kernel, by unfold Rise; decide +kernel⟩
theorem bd7 : Bd A7 := ⟨by decide +kernel, by decide +kernel, by decide +kernel, by decide +kernel, by decide +kernel, by decide +kernel, by decide +kernel, by decide +kernel, by decide +kernel, by decide +kernel, by decide +kernel, by unfold Rise; decide +kernel⟩
theorem bd8 : Bd A8 := ⟨by decide +kernel, by decide +kernel, by decide +kernel, by decide +kernel, by decide +kernel, by decide +kernel, by decide +kernel, by decide +kernel, by decide +kernel, by decide +kernel, by decide +kernel, by unfold Rise; decide +kernel⟩
theorem bd9 : Bd A9 := ⟨by decide +kernel, by decide +kernel, by decide +kernel, by decide +kernel, by decide +kernel, by decide +kernel, by decide +kernel, by decide +kernel, by decide +kernel, by decide +kernel, by decide +kernel, by unfold Rise; decide +kernel⟩

theorem bd6n : ∀ f ∈ A6.L, f.n.size ≤ 20 := by decide +kernel
theorem names_le {L : List Fl} (h : ∀ f ∈ L, f.n.size ≤ 20) : ∀ f ∈ L, f.n.size ≤ maxLen := fun f hf => by have := h f hf; unfold maxLen; omega
theorem op_at {R : Dk × Nat} {A : Dk} {c : Nat} {p b : Nat} {w w' : World} {e : Ending} (h : R = (A, c)) (hp : OpPost R p b w e w') : e = .returned (.int .i64 (c : Nat)) ∧ DiskAt w' p b A ∧ Kp p b w w' := by subst h; exact hp
theorem read_no {S : Dk} {n : ByteArray} {a : Int} {B : ByteArray} {c : Nat} {p b : Nat} {w w' : World} {e : Ending} (h : rdS S n a = (B, c)) (hc : c ≠ 0) (hp : ReadPost S n a p b w e w') : e = .returned (.tuple #[.string B, .int .i64 (c : Nat)]) ∧ DiskAt w' p b S ∧ Kp p b w w' := by
  obtain ⟨h1, h2, h3⟩ := hp
  unfold doRd at h2
  rw [h] at h1 h2
  rw [if_neg hc] at h2
  exact ⟨h1, h2, h3⟩
theorem read_yes {S : Dk} {n : ByteArray} {a : Int} {B : ByteArray} {p b : Nat} {w w' : World} {e : Ending} (h : rdS S n a = (B, 0)) (hp : ReadPost S n a p b w e w') : e = .returned (.tuple #[.string B, .int .i64 0]) ∧ DiskAt w' p b { S with reads := S.reads + 1 } ∧ Kp p b w w' := by
  obtain ⟨h1, h2, h3⟩ := hp
  unfold doRd at h2
  rw [h] at h1 h2
  exact ⟨h1, h2, h3⟩
theorem ints_one (w : World) (x : Int) (T : TypeId) : IntsAt (w.alloc (.cells #[.int .i64 x] T)) w.heap.size [x] (.slice (some ⟨w.heap.size, 0, none⟩) 1 1) := by
  refine ⟨_, _, rfl, by simp, fun _ => ⟨0, rfl, fun k hk => ?_⟩⟩
  obtain rfl : k = 0 := by simp at hk; exact hk
  simp
section
variable {w : World} {p b : Nat} {S : Dk}
theorem size_at (h : DiskAt w p b S) {n : ByteArray} {f : Fl} (hf : lkF S.L n = some f) (hn : n.size ≤ maxLen) : Calls Tryz.prog 56 #[ptr p, .string n] w fun e w' => e = .returned (.tuple #[.int .i64 ((f.s ++ f.l).size : Nat), .bool true]) ∧ Below w.heap.size w w' := by
  have := size_any h hn
  rw [hf] at this
  exact this
end

end Go.Proofs.YtefknfbmphdafaaGreat.Ds
namespace Go.Proofs.YtefknfbmphdafaaGreat.Ds
open Go.ChangeShapes Go.WideShapes Go.ChangeAt Go.RowKit Go.Maps DkM

structure Op5 where
  k : Int
  a : ByteArray
  b : ByteArray
  n : Int
structure OkOp (o : Op5) : Prop where
  k0 : -9223372036854775808 ≤ o.k
  k1 : o.k ≤ 9223372036854775807
  a1 : o.a.size ≤ 140737488355328
  b1 : o.b.size ≤ 140737488355328
  n0 : -9223372036854775808 ≤ o.n
  n1 : o.n ≤ 9223372036854775807
def OpCell (w : World) (b off : Nat) (o : Op5) : Prop :=
  w.cell? ⟨b, off, none⟩ = some (.int .i64 o.k) ∧ w.cell? ⟨b, off + 1, none⟩ = some (.string o.a) ∧ w.cell? ⟨b, off + 2, none⟩ = some (.string o.b) ∧ w.cell? ⟨b, off + 3, none⟩ = some (.int .i64 o.n)
/-- A slice of ops. -/
def OpsAt (w : World) (v : Value) (l : List Op5) : Prop :=
  ∃ A cap, v = .slice A l.length cap ∧ l.length ≤ cap ∧ (0 < l.length → ∃ b off, A = some ⟨b, off, none⟩ ∧ b < w.heap.size ∧ ∀ j (h : j < l.length), OpCell w b (off + j * 4) l[j])
theorem OpCell.below {w w' : World} {b off : Nat} {o : Op5} (h : OpCell w b off o) (hb : Below w.heap.size w w') (hl : b < w.heap.size) : OpCell w' b off o :=
  ⟨(hb.cell (by exact hl)).trans h.1, (hb.cell (by exact hl)).trans h.2.1, (hb.cell (by exact hl)).trans h.2.2.1, (hb.cell (by exact hl)).trans h.2.2.2⟩
theorem OpsAt.below {w w' : World} {v : Value} {l : List Op5} (h : OpsAt w v l) (hb : Below w.heap.size w w') : OpsAt w' v l := by
  obtain ⟨A, cap, h1, h2, h3⟩ := h
  refine ⟨A, cap, h1, h2, fun hl => ?_⟩
  obtain ⟨b, off, e, hlt, hc⟩ := h3 hl
  exact ⟨b, off, e, Nat.lt_of_lt_of_le hlt hb.size, fun j hj => (hc j hj).below hb hlt⟩
theorem list_of {α : Type} [Inhabited α] (n : Nat) (P : Nat → α → Prop) (h : ∀ i, i < n → ∃ x, P i x) : ∃ l : List α, l.length = n ∧ ∀ i (hi : i < l.length), P i l[i] := by
  classical
  refine ⟨(List.range n).map fun i => if h' : i < n then Classical.choose (h i h') else default, by simp, fun i hi => ?_⟩
  have hn : i < n := by simpa using hi
  simp only [List.getElem_map, List.getElem_range, hn, dif_pos]
  exact Classical.choose_spec (h i hn)
theorem add_plain (b off n : Nat) : (⟨b, off, none⟩ : Addr).add n = ⟨b, off + n, none⟩ := by unfold Addr.add; split <;> simp_all
theorem weights_all {H : Type} {P : Program} {e : TypeId} : ∀ {l : List (DataW H)} {d : DataW H}, d ∈ l → ∀ n ∈ d.weights P e, n ∈ DataW.weightsAll P e l
  | x :: r, d, hd, n, hn => by
    simp only [DataW.weightsAll, List.mem_append]
    rcases List.mem_cons.1 hd with rfl | hr
    · exact Or.inl hn
    · exact Or.inr (weights_all hr n hn)
theorem cells_op : Tryz.prog.cellsOf 64 = 4 := by kernel_rfl
set_option maxRecDepth 100000 in
theorem op_cell {H : Type} {enc : TypeId × Value → H} {W : World} {base : Nat} {sp : Nat → Bool} {held : Bool} {a : Addr} {n : Nat} {cs : List Value} {d : DataW H} {ps : List MemPlace}
    (h1 : W.cells? base a (Tryz.prog.cellsOf 64) = some cs) (h2 : DataW.trod enc Tryz.prog W base sp held n 64 cs = some (d, ps)) (hw : ∀ x ∈ d.weights Tryz.prog 64, x ≤ reachBytes) :
    ∃ o : Op5, OkOp o ∧ W.cell? a = some (.int .i64 o.k) ∧ W.cell? (a.add 1) = some (.string o.a) ∧ W.cell? (a.add 2) = some (.string o.b) ∧ W.cell? (a.add 3) = some (.int .i64 o.n) := by
  rw [cells_op] at h1
  obtain ⟨_, hlen, hcell⟩ := World.cells?_some h1
  obtain ⟨xs, k, hk, hxy, _, hxl, hf⟩ := DataW.trod_struct Tryz.underlying64 h2
  match xs, hxl, cs, hlen with
  | [y0, y1, y2, y3], _, [v0, v1, v2, v3], _ =>
    have g0 := hf 0 _ rfl
    have g1 := hf 1 _ rfl
    have g2 := hf 2 _ rfl
    have g3 := hf 3 _ rfl
    have q0 : DataW.trod enc Tryz.prog W base sp held k 3 [v0] = some y0 := g0
    have q1 : DataW.trod enc Tryz.prog W base sp held k 9 [v1] = some y1 := g1
    have q2 : DataW.trod enc Tryz.prog W base sp held k 9 [v2] = some y2 := g2
    have q3 : DataW.trod enc Tryz.prog W base sp held k 3 [v3] = some y3 := g3
    have e0 := hcell 0 (by omega)
    have e1 := hcell 1 (by omega)
    have e2 := hcell 2 (by omega)
    have e3 := hcell 3 (by omega)
    simp only [Prod.mk.injEq] at hxy
    obtain ⟨rfl, _⟩ := hxy
    obtain ⟨z0, hz0, hd0, w0⟩ := DataW.trod_int Tryz.underlying3 q0
    obtain ⟨z1, hz1, hd1, w1⟩ := DataW.trod_string Tryz.underlying9 q1
    obtain ⟨z2, hz2, hd2, w2⟩ := DataW.trod_string Tryz.underlying9 q2
    obtain ⟨z3, hz3, hd3, w3⟩ := DataW.trod_int Tryz.underlying3 q3
    subst hd0 hd1 hd2 hd3
    simp only [List.cons.injEq, and_true] at hz0 hz1 hz2 hz3
    subst hz0 hz1 hz2 hz3
    have b0 := bounds_i64 w0
    have b3 := bounds_i64 w3
    have m1 := hw z1.data.toList.length (by simp [DataW.weights, Tryz.underlying64, DataW.weightsEach])
    have m2 := hw z2.data.toList.length (by simp [DataW.weights, Tryz.underlying64, DataW.weightsEach])
    unfold reachBytes at m1 m2
    refine ⟨⟨z0, z1, z2, z3⟩, ⟨b0.1, b0.2, by show z1.size ≤ _; rw [sz_list]; omega, by show z2.size ≤ _; rw [sz_list]; omega, b3.1, b3.2⟩, ?_, ?_, ?_, ?_⟩
    · simpa [Addr.add] using e0
    · simpa using e1
    · simpa using e2
    · simpa using e3
def ReadOps (w : World) (v : Value) : Prop := ∃ l : List Op5, OpsAt w v l ∧ (∀ o ∈ l, OkOp o) ∧ l.length ≤ 140737488355328
instance : Inhabited Op5 := ⟨⟨0, nul, nul, 0⟩⟩
def ReadInts (w : World) (v : Value) : Prop := ∃ (ks : List Int) (kb : Nat), IntsAt w kb ks v ∧ (0 < ks.length → kb < w.heap.size) ∧ (∀ x ∈ ks, -9223372036854775808 ≤ x ∧ x ≤ 9223372036854775807) ∧ ks.length ≤ 9223372036854775807 ∧ ∀ a n cap, v = .slice a n cap → cap ≤ 9223372036854775807
end Go.Proofs.YtefknfbmphdafaaGreat.Ds
namespace Go.Proofs.YtefknfbmphdafaaGreat.Ds
open Go.RowKit Go.Maps DkM

/-- What holds of a disk of which at most N ops and reads were done. -/
structure Iv (N : Nat) (S : Dk) : Prop where
  fuse0 : -1 ≤ S.fuse
  fuse1 : S.fuse ≤ 9223372036854775807
  ops0 : 0 ≤ S.ops
  ops1 : S.ops ≤ N
  reads0 : 0 ≤ S.reads
  reads1 : S.reads ≤ N
  len : S.L.length ≤ N
  used : S.used = (usd S.L : Nat)
  room : (usd S.L : Int) ≤ S.lim
  lim0 : 0 ≤ S.lim
  lim1 : S.lim ≤ 1073741824
  rise : Rise S.L
  right : ∀ f ∈ S.L, Rgt f.n = true
theorem Iv.bd {N : Nat} {S : Dk} (h : Iv N S) (hN : N ≤ 1048576) : Bd S := by
  obtain ⟨h1, h2, h3, h4, h5, h6, h7, h8, h9, h10, h11, h12, _⟩ := h
  exact ⟨h1, h2, h3, by omega, h5, by omega, by omega, h8, by omega, h10, h11, h12⟩
theorem rgt_size {n : ByteArray} (h : Rgt n = true) : 1 ≤ n.size ∧ n.size ≤ 20 := by
  unfold Rgt at h
  simp only [Bool.and_eq_true, decide_eq_true_eq] at h
  exact h.1
theorem Iv.names {N : Nat} {S : Dk} (h : Iv N S) : ∀ f ∈ S.L, f.n.size ≤ maxLen := fun f hf => by have := rgt_size (h.right f hf); unfold maxLen; omega
theorem Iv.mono {N M : Nat} {S : Dk} (h : Iv N S) (hM : N ≤ M) : Iv M S := by
  obtain ⟨h1, h2, h3, h4, h5, h6, h7, h8, h9, h10, h11, h12, h13⟩ := h
  exact ⟨h1, h2, h3, by omega, h5, by omega, by omega, h8, h9, h10, h11, h12, h13⟩
theorem Iv.new (lim : Int) : Iv 0 (newS lim) := by
  unfold newS
  exact ⟨by simp, by simp, by simp, by simp, by simp, by simp, by simp, rfl, by show (0 : Int) ≤ _; simp only; omega, by simp only; omega, by simp only; omega, List.Pairwise.nil, by simp⟩
theorem Iv.down {N : Nat} {S : Dk} (h : Iv N S) : Iv N { S with down := true } := by
  obtain ⟨h1, h2, h3, h4, h5, h6, h7, h8, h9, h10, h11, h12, h13⟩ := h
  exact ⟨h1, h2, h3, h4, h5, h6, h7, h8, h9, h10, h11, h12, h13⟩
theorem Iv.tick {N : Nat} {S : Dk} (h : Iv N S) : Iv (N + 1) (tick S) := by
  obtain ⟨h1, h2, h3, h4, h5, h6, h7, h8, h9, h10, h11, h12, h13⟩ := h
  unfold Go.Proofs.YtefknfbmphdafaaGreat.Ds.tick
  exact ⟨by simp only; omega, by simp only; omega, by simp only; omega, by simp only; omega, h5, by simp only; omega, by simp only; omega, h8, h9, h10, h11, h12, h13⟩
/-- With other files, behind a tick. -/
theorem Iv.files {N : Nat} {S : Dk} (h : Iv N S) {L : List Fl} {u : Int} (hu : u = (usd L : Nat)) (hr : (usd L : Int) ≤ S.lim) (hL : L.length ≤ N + 1) (hR : Rise L) (hn : ∀ f ∈ L, Rgt f.n = true) : Iv (N + 1) { Go.Proofs.YtefknfbmphdafaaGreat.Ds.tick S with L := L, used := u } := by
  obtain ⟨h1, h2, h3, h4, h5, h6, h7, h8, h9, h10, h11, h12, h13⟩ := h.tick
  exact ⟨h1, h2, h3, h4, h5, h6, hL, hu, hr, h10, h11, hR, hn⟩
theorem Iv.opR {N : Nat} {S S' : Dk} {e : Nat} (h : Iv N S) (h' : e = 0 → Iv (N + 1) S') : Iv (N + 1) (opR S e S').1 := by
  unfold Go.Proofs.YtefknfbmphdafaaGreat.Ds.opR
  split
  · exact h.mono (by omega)
  · split
    · exact h.mono (by omega)
    · split
      · exact h.down.mono (by omega)
      · rename_i he _
        exact h' (by simpa using he)
theorem whyC_zero {L : List Fl} {n : ByteArray} (h : whyC L n = 0) : Rgt n = true ∧ lkF L n = none := by
  unfold whyC at h
  split at h
  · rename_i hh
    exact ⟨hh.1, by cases hl : lkF L n with | none => rfl | some f => rw [hl] at hh; simp at hh⟩
  · cases h
theorem Iv.doC {N : Nat} {S : Dk} (h : Iv N S) (n : ByteArray) : Iv (N + 1) (doC S n).1 := by
  unfold Go.Proofs.YtefknfbmphdafaaGreat.Ds.doC
  refine h.opR fun he => ?_
  obtain ⟨hr, hl⟩ := whyC_zero he
  have hu := usd_put h.rise ⟨n, nul, nul⟩
  simp only [hl, flS] at hu
  have z : nul.size = 0 := rfl
  rw [z] at hu
  have e : ({ Go.Proofs.YtefknfbmphdafaaGreat.Ds.tick S with L := putF S.L ⟨n, nul, nul⟩ } : Dk) = { Go.Proofs.YtefknfbmphdafaaGreat.Ds.tick S with L := putF S.L ⟨n, nul, nul⟩, used := S.used } := rfl
  rw [e]
  have h8 := h.used
  have h9 := h.room
  exact h.files (by omega) (by omega) (by have := len_put S.L ⟨n, nul, nul⟩; have := h.len; omega) (h.rise.put _) (fun f hf => by
    rcases mem_put.1 hf with rfl | ⟨h1, _⟩
    · exact hr
    · exact h.right f h1)
theorem whyA_zero {S : Dk} {n t : ByteArray} (h : whyA S n t = 0) : (∃ f, lkF S.L n = some f) ∧ (t.size : Int) ≤ S.lim - S.used := by
  unfold whyA at h
  split at h
  · cases h
  · rename_i h1
    split at h
    · cases h
    · rename_i h2
      refine ⟨Option.isSome_iff_exists.1 (by cases hq : (lkF S.L n).isSome with | true => rfl | false => exact absurd hq h1), by omega⟩
theorem len_put_at {L : List Fl} {f : Fl} (hR : Rise L) {g : Fl} (hl : lkF L f.n = some g) : (putF L f).length = L.length := by
  obtain ⟨h1, h2⟩ := lkF_some hl
  obtain ⟨A, B, rfl⟩ := List.append_of_mem h1
  rw [put_at hR h2.symm]
  simp
theorem Iv.doA {N : Nat} {S : Dk} (h : Iv N S) (n t : ByteArray) : Iv (N + 1) (doA S n t).1 := by
  unfold Go.Proofs.YtefknfbmphdafaaGreat.Ds.doA
  refine h.opR fun he => ?_
  obtain ⟨⟨f, hl⟩, hr⟩ := whyA_zero he
  unfold didA
  rw [hl]
  simp only [Option.getD_some]
  have hu := usd_put h.rise ⟨n, f.s, f.l ++ t⟩
  simp only [hl, app_size, flS] at hu
  have h8 := h.used
  have h9 := h.room
  exact h.files (by omega) (by omega) (by have := len_put S.L ⟨n, f.s, f.l ++ t⟩; have := h.len; omega) (h.rise.put _) (fun g hg => by
    rcases mem_put.1 hg with rfl | ⟨h1, _⟩
    · obtain ⟨hf, he⟩ := lkF_some hl
      have := h.right f hf
      rw [he] at this
      exact this
    · exact h.right g h1)
theorem Iv.doS {N : Nat} {S : Dk} (h : Iv N S) (n : ByteArray) : Iv (N + 1) (doS S n).1 := by
  unfold Go.Proofs.YtefknfbmphdafaaGreat.Ds.doS
  refine h.opR fun he => ?_
  obtain ⟨f, hl⟩ := thr_zero he
  unfold didS gotF
  rw [hl]
  simp only [Option.getD_some]
  have hu := usd_put h.rise ⟨n, f.s ++ f.l, nul⟩
  simp only [hl, app_size, flS] at hu
  have z : nul.size = 0 := rfl
  rw [z] at hu
  have e : ({ Go.Proofs.YtefknfbmphdafaaGreat.Ds.tick S with L := putF S.L ⟨n, f.s ++ f.l, nul⟩ } : Dk) = { Go.Proofs.YtefknfbmphdafaaGreat.Ds.tick S with L := putF S.L ⟨n, f.s ++ f.l, nul⟩, used := S.used } := rfl
  rw [e]
  have h8 := h.used
  have h9 := h.room
  exact h.files (by omega) (by omega) (by have := len_put S.L ⟨n, f.s ++ f.l, nul⟩; have := h.len; omega) (h.rise.put _) (fun g hg => by
    rcases mem_put.1 hg with rfl | ⟨h1, _⟩
    · obtain ⟨hf, he⟩ := lkF_some hl
      have := h.right f hf
      rw [he] at this
      exact this
    · exact h.right g h1)
theorem flB_size {L : List Fl} {n : ByteArray} : (flB (lkF L n)).size = flS (lkF L n) := by
  cases lkF L n with
  | none => rfl
  | some f => show (f.s ++ f.l).size = _; rw [app_size]; rfl
theorem Iv.doD {N : Nat} {S : Dk} (h : Iv N S) (n : ByteArray) : Iv (N + 1) (doD S n).1 := by
  unfold Go.Proofs.YtefknfbmphdafaaGreat.Ds.doD
  refine h.opR fun he => ?_
  unfold didD
  have hu := usd_wo h.rise n
  have hf := flB_size (L := S.L) (n := n)
  rw [← hf] at hu
  have h8 := h.used
  have h9 := h.room
  exact h.files (by omega) (by omega) (by have := len_wo S.L n; have := h.len; omega) (h.rise.wo _) (fun g hg => h.right g (mem_wo.1 hg).1)
theorem whyR_zero {S : Dk} {a c : ByteArray} (h : whyR S a c = 0) : Rgt c = true ∧ ∃ f, lkF S.L a = some f := by
  unfold whyR at h
  split at h
  · rename_i h1
    exact ⟨h1, thr_zero h⟩
  · cases h
theorem usd_ren {L : List Fl} (h : Rise L) {a c : ByteArray} (hne : a ≠ c) {f : Fl} (hl : lkF L a = some f) : usd (wo (putF L ⟨c, f.s, f.l⟩) a) + (flB (lkF L c)).size = usd L := by
  have hu := usd_put h ⟨c, f.s, f.l⟩
  have hw := usd_wo (h.put ⟨c, f.s, f.l⟩) a
  rw [lkF_put_other h _ (by exact hne), hl] at hw
  rw [flB_size]
  simp only [flS] at hu hw
  simp only [flS]
  omega
theorem Iv.doR {N : Nat} {S : Dk} (h : Iv N S) (a c : ByteArray) : Iv (N + 1) (doR S a c).1 := by
  unfold Go.Proofs.YtefknfbmphdafaaGreat.Ds.doR
  refine h.opR fun he => ?_
  obtain ⟨hr, f, hl⟩ := whyR_zero he
  unfold didR gotF
  split
  · exact h.tick
  · rename_i hq
    rw [hl]
    simp only [Option.getD_some]
    have hu := usd_ren h.rise (c := c) (fun e => hq (eqN_iff.2 e)) hl
    have h8 := h.used
    have h9 := h.room
    exact h.files (by omega) (by omega) (by have := len_wo (putF S.L ⟨c, f.s, f.l⟩) a; have := len_put S.L ⟨c, f.s, f.l⟩; have := h.len; omega) ((h.rise.put _).wo _) (fun g hg => by
      rcases mem_put.1 (mem_wo.1 hg).1 with rfl | ⟨h1, _⟩
      · exact hr
      · exact h.right g h1)
theorem crF_names (L : List Fl) (ks : List Int) : (crF L ks).map (·.n) = L.map (·.n) := by
  induction L generalizing ks with
  | nil => rfl
  | cons f r ih =>
    unfold crF
    split
    · simp [ih]
    · simp only [List.map_cons, ih]; rfl
theorem crF_rise {L : List Fl} (h : Rise L) (ks : List Int) : Rise (crF L ks) := by
  have e : ∀ M : List Fl, Rise M ↔ (M.map (·.n)).Pairwise (fun a b => bf a b = true) := fun M => by unfold Rise; rw [List.pairwise_map]
  rw [e, crF_names, ← e]
  exact h
theorem crF_usd (L : List Fl) (ks : List Int) : usd (crF L ks) ≤ usd L := by
  induction L generalizing ks with
  | nil => exact Nat.le_refl _
  | cons f r ih =>
    unfold crF
    split
    · have := ih ks; simp only [usd]; omega
    · have := ih ks.tail
      have hz := crO_size f (ks.headD 0)
      have hm : clK f.l.size (ks.headD 0) ≤ f.l.size := by unfold clK; omega
      simp only [usd]; omega
theorem crF_right {L : List Fl} (h : ∀ f ∈ L, Rgt f.n = true) (ks : List Int) : ∀ f ∈ crF L ks, Rgt f.n = true := by
  intro f hf
  have : f.n ∈ (crF L ks).map (·.n) := List.mem_map.2 ⟨f, hf, rfl⟩
  rw [crF_names] at this
  obtain ⟨g, hg, he⟩ := List.mem_map.1 this
  rw [← he]; exact h g hg
theorem Iv.crash {N : Nat} {S : Dk} (h : Iv N S) (ks : List Int) : Iv N (doCr S ks) := by
  obtain ⟨h1, h2, h3, h4, h5, h6, h7, h8, h9, h10, h11, h12, h13⟩ := h
  unfold doCr
  exact ⟨by simp, by simp, h3, h4, h5, h6, by rw [crF_len]; exact h7, rfl, by have := crF_usd S.L ks; simp only; omega, h10, h11, crF_rise h12 ks, crF_right h13 ks⟩
theorem Iv.read {N : Nat} {S : Dk} (h : Iv N S) (n : ByteArray) (a : Int) : Iv (N + 1) (doRd S n a) := by
  unfold doRd
  split
  · obtain ⟨h1, h2, h3, h4, h5, h6, h7, h8, h9, h10, h11, h12, h13⟩ := h
    exact ⟨h1, h2, h3, by simp only; omega, by simp only; omega, by simp only; omega, by simp only; omega, h8, h9, h10, h11, h12, h13⟩
  · exact h.mono (by omega)
theorem Iv.fuse {N : Nat} {S : Dk} (h : Iv N S) (n : Int) (hn : n ≤ 9223372036854775807) : Iv N { S with fuse := max n (-1) } := by
  obtain ⟨h1, h2, h3, h4, h5, h6, h7, h8, h9, h10, h11, h12, h13⟩ := h
  exact ⟨by simp only; omega, by simp only; omega, h3, h4, h5, h6, h7, h8, h9, h10, h11, h12, h13⟩

/-- What comes of one op of a script. -/
def doOp (S : Dk) (o : Op5) (ks : List Int) : Dk × Nat :=
  if o.k = 0 then doC S o.a else if o.k = 1 then doA S o.a o.b else if o.k = 2 then doS S o.a else if o.k = 3 then doR S o.a o.b else if o.k = 4 then doD S o.a else
  if o.k = 5 then (doRd S o.a o.n, (rdS S o.a o.n).2) else if o.k = 6 then ({ S with fuse := max o.n (-1) }, 0) else if o.k = 7 then (doCr S ks, 0) else (S, 0)
theorem Iv.doOp {N : Nat} {S : Dk} (h : Iv N S) {o : Op5} (ho : OkOp o) (ks : List Int) : Iv (N + 1) (doOp S o ks).1 := by
  unfold Go.Proofs.YtefknfbmphdafaaGreat.Ds.doOp
  split
  · exact h.doC _
  split
  · exact h.doA _ _
  split
  · exact h.doS _
  split
  · exact h.doR _ _
  split
  · exact h.doD _
  split
  · exact h.read _ _
  split
  · exact (h.fuse _ ho.n1).mono (by omega)
  split
  · exact (h.crash _).mono (by omega)
  · exact h.mono (by omega)
end Go.Proofs.YtefknfbmphdafaaGreat.Ds
namespace Go.Proofs.YtefknfbmphdafaaGreat.Ds
open Go.RowKit Go.Maps DkM

def tot : List Op5 → Nat
  | [] => 0
  | o :: r => o.a.size + o.b.size + tot r
def fewB (l : List Op5) : Bool := decide (tot l ≤ 3000 ∧ l.length ≤ 60)
theorem tot_app (a b : List Op5) : tot (a ++ b) = tot a + tot b := by
  induction a with
  | nil => simp [tot]
  | cons o r ih => simp only [List.cons_append, tot, ih]; omega
theorem tot_take (l : List Op5) (k : Nat) (h : k < l.length) : tot (l.take (k + 1)) = tot (l.take k) + (l[k].a.size + l[k].b.size) := by
  rw [List.take_succ_eq_append_getElem h, tot_app]; simp [tot]
theorem tot_le (l : List Op5) (k : Nat) : tot (l.take k) ≤ tot l := by
  have : tot l = tot (l.take k) + tot (l.drop k) := by rw [← tot_app, List.take_append_drop]
  omega
abbrev opV (o : Op5) : Value := .agg #[.int .i64 o.k, .string o.a, .string o.b, .int .i64 o.n]

section
variable {w : World} {p b : Nat} {S : Dk}
theorem op_box (w : World) (k n : Int) (a c : ByteArray) : (w.alloc (.cells #[.int .i64 k, .string a, .string c, .int .i64 n] 64)).cell? ⟨w.heap.size, 0, none⟩ = some (.int .i64 k) ∧ (w.alloc (.cells #[.int .i64 k, .string a, .string c, .int .i64 n] 64)).cell? ⟨w.heap.size, 1, none⟩ = some (.string a) ∧
    (w.alloc (.cells #[.int .i64 k, .string a, .string c, .int .i64 n] 64)).cell? ⟨w.heap.size, 2, none⟩ = some (.string c) ∧ (w.alloc (.cells #[.int .i64 k, .string a, .string c, .int .i64 n] 64)).cell? ⟨w.heap.size, 3, none⟩ = some (.int .i64 n) := by simp
theorem op_post {R : Dk × Nat} {w w' w1 : World} {r : Ending} {x : Nat} (hr : r = .returned (.int .i64 x)) (hx : R.2 = x) (hd : DiskAt w' p b R.1) (h1 : Kp p b w w1) (h2 : Kp p b w1 w') : OpPost R p b w r w' := ⟨by rw [hx]; exact hr, hd, h1.trans h2⟩

set_option maxRecDepth 100000 in
set_option maxHeartbeats 1000000 in
theorem do_any (h : DiskAt w p b S) (B : Bd S) (hnm : ∀ f ∈ S.L, f.n.size ≤ maxLen) {o : Op5} (ho : OkOp o) {ks : List Int} {kb : Nat} {K : Value} (hK : IntsAt w kb ks K) (hkb : 0 < ks.length → kb < w.heap.size ∧ kb ≠ p ∧ kb ≠ b) (hkw : ∀ x ∈ ks, -9223372036854775808 ≤ x ∧ x ≤ 9223372036854775807) :
    Calls Tryz.prog 41 #[ptr p, opV o, K] w (OpPost (doOp S o ks) p b w) := by
  obtain ⟨k, a, c, n⟩ := o
  obtain ⟨k0, k1, ha1, hb1, n0, n1⟩ := ho
  simp only at k0 k1 ha1 hb1 n0 n1
  have HA := Lib.hid (show a.size ≤ maxLen by unfold maxLen; omega)
  have HC := Lib.hid (show c.size ≤ maxLen by unfold maxLen; omega)
  replace hb1 : c.size ≤ 9223372036854775807 := by omega
  have DB := Lib.hid (h.alloc (.cells #[.int .i64 k, .string a, .string c, .int .i64 n] 64))
  have K1 : Kp p b w (w.alloc (.cells #[.int .i64 k, .string a, .string c, .int .i64 n] 64)) := Kp.alloc _ _
  have HB := Lib.hid B
  have HN := Lib.hid hnm
  have hKI := Lib.hid (IntsAt.keep (w' := w.alloc (.cells #[.int .i64 k, .string a, .string c, .int .i64 n] 64)) hK (fun h0 => Below.heap_alloc _ _ _ (hkb h0).1))
  have HKB := Lib.hid (show 0 < ks.length → kb < (w.alloc (.cells #[.int .i64 k, .string a, .string c, .int .i64 n] 64)).heap.size ∧ kb ≠ p ∧ kb ≠ b from fun h0 => ⟨by simp; have := (hkb h0).1; omega, (hkb h0).2⟩)
  have HKW := Lib.hid hkw
  clear h B hnm ha1 hK hkb hkw
  by_cases e0 : k = 0
  · subst e0
    have HD := Lib.hid (show doOp S ⟨0, a, c, n⟩ ks = doC S a by unfold doOp; simp)
    go_enter Tryz.func41, Tryz.ntmps41
    go_wp2_with fail
    refine (create_any DB.out HB.out HA.out).mono ?_
    rintro e w1 ⟨rfl, D1, K2⟩
    have DD := Lib.hid D1
    clear D1
    go_wp2_with fail
    go_ret
    rw [HD.out]
    exact ⟨rfl, DD.out, K1.trans K2⟩
  by_cases e1 : k = 1
  · subst e1
    have HD := Lib.hid (show doOp S ⟨1, a, c, n⟩ ks = doA S a c by unfold doOp; simp)
    go_enter Tryz.func41, Tryz.ntmps41
    go_wp2_with fail
    refine (append_any DB.out HB.out HA.out hb1).mono ?_
    rintro e w1 ⟨rfl, D1, K2⟩
    have DD := Lib.hid D1
    clear D1
    go_wp2_with fail
    go_ret
    rw [HD.out]
    exact ⟨rfl, DD.out, K1.trans K2⟩
  by_cases e2 : k = 2
  · subst e2
    have HD := Lib.hid (show doOp S ⟨2, a, c, n⟩ ks = doS S a by unfold doOp; simp)
    go_enter Tryz.func41, Tryz.ntmps41
    go_wp2_with fail
    refine (sync_any DB.out HB.out HA.out).mono ?_
    rintro e w1 ⟨rfl, D1, K2⟩
    have DD := Lib.hid D1
    clear D1
    go_wp2_with fail
    go_ret
    rw [HD.out]
    exact ⟨rfl, DD.out, K1.trans K2⟩
  by_cases e3 : k = 3
  · subst e3
    have HD := Lib.hid (show doOp S ⟨3, a, c, n⟩ ks = doR S a c by unfold doOp; simp)
    go_enter Tryz.func41, Tryz.ntmps41
    go_wp2_with fail
    refine (rename_any DB.out HB.out HA.out HC.out).mono ?_
    rintro e w1 ⟨rfl, D1, K2⟩
    have DD := Lib.hid D1
    clear D1
    go_wp2_with fail
    go_ret
    rw [HD.out]
    exact ⟨rfl, DD.out, K1.trans K2⟩
  by_cases e4 : k = 4
  · subst e4
    have HD := Lib.hid (show doOp S ⟨4, a, c, n⟩ ks = doD S a by unfold doOp; simp)
    go_enter Tryz.func41, Tryz.ntmps41
    go_wp2_with fail
    refine (delete_any DB.out HB.out HA.out).mono ?_
    rintro e w1 ⟨rfl, D1, K2⟩
    have DD := Lib.hid D1
    clear D1
    go_wp2_with fail
    go_ret
    rw [HD.out]
    exact ⟨rfl, DD.out, K1.trans K2⟩
  by_cases e5 : k = 5
  · subst e5
    have HD := Lib.hid (show doOp S ⟨5, a, c, n⟩ ks = (doRd S a n, (rdS S a n).2) by unfold doOp; simp)
    go_enter Tryz.func41, Tryz.ntmps41
    go_wp2_with fail
    refine (read_any DB.out HB.out HA.out n n0 n1).mono ?_
    rintro e w1 ⟨rfl, D1, K2⟩
    have DD := Lib.hid D1
    clear D1
    go_wp2_with fail
    go_ret
    rw [HD.out]
    exact ⟨rfl, DD.out, K1.trans K2⟩
  by_cases e6 : k = 6
  · subst e6
    have HD := Lib.hid (show doOp S ⟨6, a, c, n⟩ ks = ({ S with fuse := max n (-1) }, 0) by unfold doOp; simp)
    go_enter Tryz.func41, Tryz.ntmps41
    go_wp2_with fail
    refine (setFuse_any DB.out n).mono ?_
    rintro e w1 ⟨rfl, D1, K2⟩
    have DD := Lib.hid D1
    clear D1
    go_wp2_with fail
    go_ret
    rw [HD.out]
    exact ⟨rfl, DD.out, K1.trans K2⟩
  by_cases e7 : k = 7
  · subst e7
    have HD := Lib.hid (show doOp S ⟨7, a, c, n⟩ ks = (doCr S ks, 0) by unfold doOp; simp)
    go_enter Tryz.func41, Tryz.ntmps41
    go_wp2_with fail
    refine (crash_any DB.out HB.out HN.out hKI.out HKB.out HKW.out).mono ?_
    rintro e w1 ⟨rfl, D1, K2⟩
    have DD := Lib.hid D1
    clear D1
    go_wp2_with fail
    go_ret
    rw [HD.out]
    exact ⟨rfl, DD.out, K1.trans K2⟩
  have HD := Lib.hid (show doOp S ⟨k, a, c, n⟩ ks = (S, 0) by unfold doOp; simp [e0, e1, e2, e3, e4, e5, e6, e7])
  have g0 : (k == 0) = false := by simpa using e0
  have g1 : (k == 1) = false := by simpa using e1
  have g2 : (k == 2) = false := by simpa using e2
  have g3 : (k == 3) = false := by simpa using e3
  have g4 : (k == 4) = false := by simpa using e4
  have g5 : (k == 5) = false := by simpa using e5
  have g6 : (k == 6) = false := by simpa using e6
  have g7 : (k == 7) = false := by simpa using e7
  clear e0 e1 e2 e3 e4 e5 e6 e7
  go_enter Tryz.func41, Tryz.ntmps41
  go_wp2_with fail
  go_ret
  rw [HD.out]
  exact ⟨rfl, DB.out, K1⟩
end
end Go.Proofs.YtefknfbmphdafaaGreat.Ds
namespace Go.Proofs.YtefknfbmphdafaaGreat.Ds
open Go.RowKit Go.Maps DkM

def BytesPost (S : Dk) (X : ByteArray) (p b : Nat) (w : World) (e : Ending) (w' : World) : Prop :=
  e = .returned (.tuple #[.string X, .bool true]) ∧ ∃ c : Nat, c ≤ X.size ∧ DiskAt w' p b { S with reads := S.reads + c } ∧ Kp p b w w'
theorem bd_reads {S : Dk} (B : Bd S) {c : Nat} (h : S.reads + c ≤ 1099511627776) : Bd { S with reads := S.reads + c } := by
  obtain ⟨h1, h2, h3, h4, h5, h6, h7, h8, h9, h10, h11, h12⟩ := B
  exact ⟨h1, h2, h3, h4, by simp only; omega, h, h7, h8, h9, h10, h11, h12⟩
theorem cat_next (X : ByteArray) (j m : Nat) (h : j ≤ m) : X.extract 0 j ++ X.extract j m = X.extract 0 m := by
  refine ba_ext ?_
  rw [app_list, ext_list, ext_list, ext_list]
  simp only [List.drop_zero]
  have : X.data.toList.take j = (X.data.toList.take m).take j := by rw [List.take_take, Nat.min_eq_left h]
  rw [this, List.take_append_drop]
theorem all_of (X : ByteArray) : X.extract 0 X.size = X := by
  refine ba_ext ?_
  rw [ext_list, List.drop_zero]
  exact take_all X
theorem ba_empty {T : ByteArray} (h : 0 < T.size) : T.toList.isEmpty = false := by
  rw [ByteArray.toList_eq, List.isEmpty_eq_false_iff]
  intro e
  rw [sz_list, e] at h
  simp at h
section
variable {w : World} {p b : Nat} {S : Dk}
theorem read_block {j : Nat} {n : ByteArray} {f : Fl} (hd : S.down = false) (hl : lkF S.L n = some f) (hj : j < (f.s ++ f.l).size) : rdS S n j = ((f.s ++ f.l).extract j (min (f.s ++ f.l).size (j + 64)), 0) := by
  unfold rdS
  rw [hd, hl]
  simp only
  rw [if_neg (by decide), if_neg (by omega)]
  rfl
end
end Go.Proofs.YtefknfbmphdafaaGreat.Ds
namespace Go.Proofs.YtefknfbmphdafaaGreat.Ds
open Go.RowKit Go.Maps DkM

def TrueBelow (w : World) (e : Ending) (w' : World) : Prop := e = .returned (.bool true) ∧ Below w.heap.size w w'
theorem new_lo (lim : Int) (w : World) :
    Calls Tryz.prog 27 #[.int .i64 lim] w fun e w' => ∃ p b : Nat, e = .returned (ptr p) ∧ w.heap.size ≤ p ∧ w.heap.size ≤ b ∧ DiskAt w' p b (newS lim) ∧ Below w.heap.size w w' :=
  (new_any lim w).mono fun e w' ⟨h1, h2, h3⟩ => ⟨w.heap.size + 1, w.heap.size, h1, by omega, Nat.le_refl _, h2, h3⟩
theorem opR_lim {S S' : Dk} {e : Nat} (h : S'.lim = S.lim) : (opR S e S').1.lim = S.lim := by
  unfold opR
  split
  · rfl
  split
  · rfl
  split
  · rfl
  · exact h
theorem doOp_lim (S : Dk) (o : Op5) (ks : List Int) : (doOp S o ks).1.lim = S.lim := by
  unfold doOp
  split
  · exact opR_lim rfl
  split
  · exact opR_lim rfl
  split
  · exact opR_lim rfl
  split
  · refine opR_lim ?_
    unfold didR
    split <;> rfl
  split
  · exact opR_lim rfl
  split
  · unfold doRd
    split <;> rfl
  split
  · rfl
  split <;> rfl
/-- The cells of the op of a round. -/
theorem OpsAt.at_ {w wr : World} {A : Option Addr} {l : List Op5} (h : 0 < l.length → ∃ b off, A = some ⟨b, off, none⟩ ∧ b < w.heap.size ∧ ∀ j (h : j < l.length), OpCell w b (off + j * 4) l[j]) (hb : Below w.heap.size w wr) {k : Nat} (hk : k < l.length) :
    ∃ b off, A = some ⟨b, off, none⟩ ∧ b < w.heap.size ∧ ∀ o, o = l[k] → OpCell wr b (off + k * 4) o := by
  obtain ⟨b, off, e, hlt, hc⟩ := h (by omega)
  exact ⟨b, off, e, hlt, fun o ho => by subst ho; exact (hc k hk).below hb hlt⟩

end Go.Proofs.YtefknfbmphdafaaGreat.Ds
namespace Go.Proofs.YtefknfbmphdafaaGreat.Ds
open Go.RowKit Go.Maps DkM

theorem why_some (S : Dk) (a c : ByteArray) : (whyC S.L a = 0 ∨ whyC S.L a = 51 ∨ whyC S.L a = 52) ∧ (whyA S a c = 0 ∨ whyA S a c = 51 ∨ whyA S a c = 52) ∧ (thr S.L a = 0 ∨ thr S.L a = 51 ∨ thr S.L a = 52) ∧ (whyR S a c = 0 ∨ whyR S a c = 51 ∨ whyR S a c = 52) := by
  have ht : thr S.L a = 0 ∨ thr S.L a = 51 ∨ thr S.L a = 52 := by unfold thr; split <;> simp
  refine ⟨by unfold whyC; split <;> simp, by unfold whyA; split <;> (try split) <;> simp, ht, ?_⟩
  unfold whyR
  split
  · exact ht
  · simp
/-- One of the five ops. -/
theorem op_case (S : Dk) {o : Op5} (ks : List Int) (h0 : 0 ≤ o.k) (h1 : o.k ≤ 4) :
    ∃ (e : Nat) (S' : Dk), doOp S o ks = opR S e S' ∧ (e = 0 ∨ e = 51 ∨ e = 52) ∧ S'.ops = S.ops + 1 ∧ S'.fuse = max (S.fuse - 1) (-1) ∧ S'.down = S.down := by
  obtain ⟨w1, w2, w3, w4⟩ := why_some S o.a o.b
  have hk : o.k = 0 ∨ o.k = 1 ∨ o.k = 2 ∨ o.k = 3 ∨ o.k = 4 := by omega
  unfold doOp
  rcases hk with h | h | h | h | h
  · rw [if_pos h]; exact ⟨_, _, rfl, w1, rfl, rfl, rfl⟩
  · rw [if_neg (by omega), if_pos h]; exact ⟨_, _, rfl, w2, rfl, rfl, rfl⟩
  · rw [if_neg (by omega), if_neg (by omega), if_pos h]; exact ⟨_, _, rfl, w3, rfl, rfl, rfl⟩
  · rw [if_neg (by omega), if_neg (by omega), if_neg (by omega), if_pos h]
    refine ⟨_, _, rfl, w4, ?_⟩
    unfold didR
    split <;> exact ⟨rfl, rfl, rfl⟩
  · rw [if_neg (by omega), if_neg (by omega), if_neg (by omega), if_neg (by omega), if_pos h]; exact ⟨_, _, rfl, w3, rfl, rfl, rfl⟩
/-- What a script's op does under a fuse. -/
structure FuseAt (n : Int) (S : Dk) (done used : Int) : Prop where
  ops : S.ops = done
  used : S.used = used
  le : done ≤ n
  fuse : S.down = false → S.fuse = n - done
theorem fuse_step {n : Int} {S : Dk} {done used : Int} (h : FuseAt n S done used) {o : Op5} {ks : List Int} (h0 : 0 ≤ o.k) (h1 : o.k ≤ 4) :
    ∃ (S' : Dk) (e : Nat), doOp S o ks = (S', e) ∧
      ((S.down = true ∧ e = 50 ∧ FuseAt n S' done used) ∨ (S.down = false ∧ (e = 51 ∨ e = 52) ∧ FuseAt n S' done used) ∨ (S.down = false ∧ e = 50 ∧ done = n ∧ FuseAt n S' done used) ∨ (S.down = false ∧ e = 0 ∧ done + 1 ≤ n ∧ FuseAt n S' (done + 1) S'.used)) := by
  obtain ⟨e, S', hd, he, a1, a2, a3⟩ := op_case S ks h0 h1
  rw [hd]
  obtain ⟨b1, b2, b3, b4⟩ := h
  unfold opR
  cases hdn : S.down with
  | true =>
    rw [if_pos rfl]
    exact ⟨S, 50, rfl, Or.inl ⟨rfl, rfl, b1, b2, b3, b4⟩⟩
  | false =>
    rw [if_neg (by decide)]
    by_cases h0 : e = 0
    · rw [if_neg (by simpa using h0)]
      by_cases hf : S.fuse = 0
      · rw [if_pos hf]
        have := b4 hdn
        exact ⟨_, 50, rfl, Or.inr (Or.inr (Or.inl ⟨rfl, rfl, by omega, b1, b2, b3, fun h => by cases h⟩))⟩
      · rw [if_neg hf]
        have := b4 hdn
        refine ⟨_, 0, rfl, Or.inr (Or.inr (Or.inr ⟨rfl, rfl, by omega, by omega, rfl, by omega, fun _ => by omega⟩))⟩
    · rw [if_pos h0]
      exact ⟨S, e, rfl, Or.inr (Or.inl ⟨rfl, by omega, b1, b2, b3, b4⟩)⟩

end Go.Proofs.YtefknfbmphdafaaGreat.Ds
