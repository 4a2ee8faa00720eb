/- The walk of Crash. -/
import Derived.Test.YtgkphogefpmeaaaDkK
namespace Go.Proofs.Ytgkphogefpmeaaa
open Go.RowKit Go.Maps DkM

def atJ (S : Dk) (A : List Fl) (j : Nat) : Dk := { S with L := A ++ S.L.drop j, used := (usd (A ++ S.L.drop j) : Nat) }
theorem atJ_zero {S : Dk} (B : Bd S) : atJ S [] 0 = S := by
  have := B.used
  cases S
  unfold atJ
  simp at this ⊢
  exact this.symm
def CrashPost (S : Dk) (ks : List Int) (p b : Nat) (w : World) (e : Ending) (w' : World) : Prop := e = .returned (.tuple #[]) ∧ DiskAt w' p b (doCr S ks) ∧ Kp p b w w'
section
variable {w : World} {p b : Nat} {S : Dk}

set_option maxRecDepth 100000 in
set_option maxHeartbeats 4000000 in
theorem crash_any (h : DiskAt w p b S) (B : Bd S) (hnm : ∀ f ∈ S.L, f.n.size ≤ maxLen) {ks0 : List Int} {kb : Nat} {K0 : Value} (hK : IntsAt w kb ks0 K0) (hkb : 0 < ks0.length → kb < w.heap.size ∧ kb ≠ p ∧ kb ≠ b) (hkw : ∀ x ∈ ks0, -9223372036854775808 ≤ x ∧ x ≤ 9223372036854775807) :
    Calls Try.prog 28 #[ptr p, K0] w (CrashPost S ks0 p b w) := by
  have hp := h.blk.lt
  have hbb := h.own.lt
  have HF := Lib.hid (files_any h B)
  have hD := Lib.hid h
  have HB := Lib.hid B
  have hlen := B.len
  obtain ⟨KA, kcap, rfl, hkl, hkc⟩ := hK
  have hKI : IntsAt w kb ks0 (.slice KA ks0.length kcap) := ⟨KA, kcap, rfl, hkl, hkc⟩
  have HKI := Lib.hid hKI
  clear h B hkl hkc hKI
  replace hkb := Lib.hid hkb
  replace hkw := Lib.hid hkw
  replace hnm := Lib.hid hnm
  go_enter Try.func28, Try.ntmps28
  go_wp2_with fail
  refine HF.out.mono ?_
  rintro e w1 ⟨v, rfl, hN, hb1⟩
  obtain ⟨NA, ncap, rfl, hNA⟩ := hN
  have HNA := Lib.hid hNA
  clear hNA
  go_wp2_with fail
  go_loopw [1, 12] (fun k i wr => ∃ (j : Nat) (A : List Fl) (ks : List Int), j ≤ S.L.length ∧ CrAt S.L ks0 j A ks ∧ (∀ x ∈ ks, x ∈ ks0) ∧ ks.length ≤ ks0.length ∧ i = .int .i64 j ∧ IntsAt wr kb ks k ∧ DiskAt wr p b (atJ S A j) ∧ Kp p b w1 wr) (fun _ i _ => S.L.length - (intOf i).toNat)
  case atStart =>
    refine ⟨0, [], ks0, Nat.zero_le _, CrAt.start HB.out.rise, fun _ h => h, Nat.le_refl _, rfl, HKI.out.keep (fun h => hb1.block kb (hkb.out h).1), ?_, Kp.refl _ _ _⟩
    rw [atJ_zero HB.out]
    exact hD.out.belowS hb1
  case round =>
    obtain ⟨j, A, ks, hj, hC, hks, hkl, rfl, hI, hDj, hKp⟩ := hrel
    obtain ⟨KA, cap, rfl, hkc, hIc⟩ := hI
    have HI := Lib.hid hIc
    have HD := Lib.hid hDj
    have HC := Lib.hid hC
    have HS := Lib.hid hks
    clear hIc hDj hC hks
    obtain ⟨lt, c0, -, c2, c3, -, -, c6⟩ := HD.out.cells
    have f3 := HD.out.blk.frozen 3
    have f2 := HD.out.blk.frozen 2
    have f6 := HD.out.blk.frozen 6
    by_cases hlt : j < S.L.length
    · clear c2 c6
      obtain ⟨g, rfl, hg1, hg2, hgc⟩ := HNA.out (by omega)
      obtain ⟨f, hf⟩ : ∃ f, f = S.L[j] := ⟨_, rfl⟩
      have nm : wr.cell? ⟨g, j, none⟩ = some (.string f.n) := by
        rw [hf]
        exact (hKp.cell (by exact hg2) (by simp; omega) (by simp; omega)).trans (hgc j hlt)
      have HL := Lib.hid (show lkF (A ++ S.L.drop j) f.n = some f by rw [hf]; exact HC.out.look hlt)
      have HFN := Lib.hid (show f.n.size ≤ maxLen by rw [hf]; exact hnm.out _ (List.getElem_mem _))
      have hfs : f.s.size + f.l.size ≤ usd (A ++ S.L.drop j) := usd_le (lkF_some HL.out).1
      have HF2 := Lib.hid hf
      clear hf hgc
      have hus : usd (A ++ S.L.drop j) ≤ 1073741824 := by have := HC.out.less; have := HB.out.used1; omega
      obtain ⟨U, hU⟩ : ∃ U, U = usd (A ++ S.L.drop j) := ⟨_, rfl⟩
      have c3' : wr.cell? ⟨p, 3, none⟩ = some (.int .i64 (U : Nat)) := by rw [c3, hU]; rfl
      rw [← hU] at hfs hus
      have HU := Lib.hid hU
      clear hU c3
      by_cases hl0 : f.l.size = 0
      · have HR := Lib.hid (HC.out.skip hlt (by rw [← HF2.out]; exact hl0))
        go_wp2_with (at_lookup; refine wpList_look _ rfl _ _ rfl b (A ++ S.L.drop j) f.n rfl HD.out.own rfl HFN.out ?_; rw [HL.out]; unfold orV flB flN; simp only [])
        go_roundw
        case rel =>
          refine ⟨j + 1, A ++ [S.L[j]], ks, by omega, HR.out, HS.out, hkl, by go_num, ?_, ?_, hKp.trans (Kp.alloc _ _)⟩
          · exact IntsAt.keep (w := wr) ⟨KA, cap, rfl, hkc, HI.out⟩ (fun h => Below.heap_alloc _ _ _ (by have := (hkb.out (by omega)).1; have := hb1.size; have := hKp.size; omega))
          · have e : atJ S (A ++ [S.L[j]]) (j + 1) = atJ S A j := by
              unfold atJ
              rw [List.drop_eq_getElem_cons hlt]
              simp
            rw [e]
            exact HD.out.alloc _
        case measure => simp [intOf]; omega
      · have hne : ((f.s.size : Int) + (f.l.size : Int) == (f.s.size : Int)) = false := by rw [beq_eq_false_iff_ne]; omega
        cases ks with
        | nil =>
          go_wp2_with (at_lookup; refine wpList_look _ rfl _ _ rfl b (A ++ S.L.drop j) f.n rfl HD.out.own rfl HFN.out ?_; rw [HL.out]; unfold orV flB flN; simp only [])
          obtain ⟨W, hW⟩ : ∃ W, W = wr.alloc (.cells #[.string (f.s ++ f.l), .int .i64 (f.s.size : Nat)] 76) := ⟨_, rfl⟩
          have DW : DiskAt W p b (atJ S A j) := by rw [hW]; exact HD.out.alloc _
          have KW : Kp p b wr W := by rw [hW]; exact Kp.alloc _ _
          have q0 : W.cell? ⟨wr.heap.size, 0, none⟩ = some (.string (f.s ++ f.l)) := by rw [hW]; simp
          have q1 : W.cell? ⟨wr.heap.size, 1, none⟩ = some (.int .i64 (f.s.size : Nat)) := by rw [hW]; simp
          have hWs : wr.heap.size < W.heap.size := cell_lt q0
          obtain ⟨ltW, d0, -, -, d3, -⟩ := DW.cells
          have e3 := DW.blk.frozen 3
          have d3' : W.cell? ⟨p, 3, none⟩ = some (.int .i64 (U : Nat)) := by rw [d3, HU.out]; rfl

          rw [← hW]
          have HDW := Lib.hid DW
          have HKW := Lib.hid KW
          clear hW DW KW d3 c0 c3' f3 f2 f6 nm lt
          have hn := HC.out.next hlt (by rw [← HF2.out]; exact hl0)
          simp only [List.headD_nil, List.tail_nil] at hn
          rw [← HF2.out] at hn
          obtain ⟨hn1, hn2, hn3⟩ := hn
          have HLN := Lib.hid (show (A ++ S.L.drop j).length < maxLen by rw [HC.out.lenL hj]; exact ml hlen)
          have HDS := Lib.hid (HDW.out.set3 ((U : Int) - ((f.s.size : Nat) + (f.l.size : Nat) - (f.s.size : Nat)))).drew
          have HE := Lib.hid (show ({ atJ S A j with used := (U : Int) - ((f.s.size : Nat) + (f.l.size : Nat) - (f.s.size : Nat)), L := putF (A ++ S.L.drop j) (crO f 0) } : Dk) = atJ S (A ++ [crO f 0]) (j + 1) by
            unfold atJ
            rw [hn2]
            have hc0 : clK f.l.size 0 = 0 := by unfold clK; simp
            rw [hc0, ← HU.out] at hn3
            have hu : (U : Int) - ((f.s.size : Nat) + (f.l.size : Nat) - (f.s.size : Nat)) = (usd (A ++ [crO f 0] ++ S.L.drop (j + 1)) : Nat) := by omega
            rw [hu])
          have HN := Lib.hid hn1
          clear hn1 hn2 hn3
          go_still_tail 15, (by kernel_rfl)
          go_wp2_with (at_mapUpdate; refine wpList_putF _ rfl _ _ _ rfl b (A ++ S.L.drop j) f.n (crO f 0) rfl HDS.out.own HLN.out rfl file_cr0 rfl HFN.out ?_; intro w5 ho ht)
          have KS : Kp p b wr w5 := HKW.out.trans (((Kp.drew _).trans (Kp.setP _ _ _)).trans (Kp.turned ht))
          have DS := DiskAt.turned HDS.out ho ht
          go_roundw
          case rel =>
            refine ⟨j + 1, A ++ [crO f 0], [], by omega, HN.out, fun x h => absurd h (by simp), Nat.zero_le _, by go_num, IntsAt.none_ _ _ _ _, ?_, hKp.trans KS⟩
            have e := HE.out
            rw [← e]
            exact DS
          case measure => simp [intOf]; omega
        | cons x ks =>
          obtain ⟨ko, rfl, hx⟩ := HI.out (by simp)
          have hx0 := hx 0 (by simp)
          simp only [List.getElem_cons_zero, Nat.add_zero] at hx0
          obtain ⟨m, hm⟩ : ∃ m, m = clK f.l.size x := ⟨_, rfl⟩
          have hkx := hkw.out x (HS.out x (by simp))
          have hk0 := hkx.1
          have hk1 := hkx.2
          obtain ⟨y, hy⟩ : ∃ y : Nat, max x 0 = (y : Int) := ⟨x.toNat, by omega⟩
          have hmin : min (y : Int) ((f.s.size : Int) + (f.l.size : Int) - (f.s.size : Int)) = (m : Int) := by rw [hm]; unfold clK; omega
          have hml : m ≤ f.l.size := by rw [hm]; unfold clK; omega
          have HX := Lib.hid hx
          have HMM := Lib.hid hm
          have hkb0 := hkb.out (by simp at hkl; omega)
          have hc1 : ks.length + 1 ≤ cap := by simpa using hkc
          have hi1 : (1 : Int) ≤ (ks.length : Int) + 1 := by omega
          have hi2 : (ks.length : Int) + 1 ≤ (cap : Int) := by omega
          have hi3 : (1 : Int) ≤ (cap : Int) := by omega
          have hin0 : (0 : Int) < (ks.length : Int) + 1 := by omega
          have HC1 := Lib.hid (show (x :: ks).length ≤ cap from hkc)
          clear hx hm hkx hkc
          by_cases hcap : cap = 1
          · obtain rfl := hcap
            go_wp2_with (at_lookup; refine wpList_look _ rfl _ _ rfl b (A ++ S.L.drop j) f.n rfl HD.out.own rfl HFN.out ?_; rw [HL.out]; unfold orV flB flN; simp only [])
            obtain ⟨W, hW⟩ : ∃ W, W = wr.alloc (.cells #[.string (f.s ++ f.l), .int .i64 (f.s.size : Nat)] 76) := ⟨_, rfl⟩
            have DW : DiskAt W p b (atJ S A j) := by rw [hW]; exact HD.out.alloc _
            have KW : Kp p b wr W := by rw [hW]; exact Kp.alloc _ _
            have q0 : W.cell? ⟨wr.heap.size, 0, none⟩ = some (.string (f.s ++ f.l)) := by rw [hW]; simp
            have q1 : W.cell? ⟨wr.heap.size, 1, none⟩ = some (.int .i64 (f.s.size : Nat)) := by rw [hW]; simp
            have hWs : wr.heap.size < W.heap.size := cell_lt q0
            obtain ⟨ltW, d0, -, -, d3, -⟩ := DW.cells
            have e3 := DW.blk.frozen 3
            have d3' : W.cell? ⟨p, 3, none⟩ = some (.int .i64 (U : Nat)) := by rw [d3, HU.out]; rfl
            have x0 : W.cell? ⟨kb, ko, none⟩ = some (.int .i64 x) := (KW.cell (by exact cell_lt hx0) (by exact hkb0.2.1) (by exact hkb0.2.2)).trans hx0
            rw [← hW]
            have HDW := Lib.hid DW
            have HKW := Lib.hid KW
            clear hx0 hW DW KW d3 c0 c3' f3 f2 f6 nm lt
            go_quiet (fail)
            go_wp2_with fail
            obtain ⟨V, hV⟩ : ∃ V, V = W.drewN nq := ⟨_, rfl⟩
            have DV : DiskAt V p b (atJ S A j) := by rw [hV]; exact HDW.out.drewN nq
            have KV : Kp p b wr V := by rw [hV]; exact HKW.out.trans (Kp.drewN _ _)
            have v0 : V.cell? ⟨wr.heap.size, 0, none⟩ = some (.string (f.s ++ f.l)) := by rw [hV]; exact q0
            have v1 : V.cell? ⟨wr.heap.size, 1, none⟩ = some (.int .i64 (f.s.size : Nat)) := by rw [hV]; exact q1
            have v3 : V.cell? ⟨p, 3, none⟩ = some (.int .i64 (U : Nat)) := by rw [hV]; exact d3'
            have g3 := DV.blk.frozen 3
            have u0 : V.cell? ⟨p, 0, none⟩ = some (.map (some b)) := by rw [hV]; exact d0
            have hVs : wr.heap.size < V.heap.size := cell_lt v0
            have ltV : p < V.heap.size := cell_lt u0
            rw [← hV]
            have HDV := Lib.hid DV
            have HKV := Lib.hid KV
            clear hV DV KV q0 q1 d3' e3 d0 hWs ltW x0
            have hn := HC.out.next hlt (by rw [← HF2.out]; exact hl0)
            simp only [List.headD_cons, List.tail_cons] at hn
            rw [← HF2.out] at hn
            obtain ⟨hn1, hn2, hn3⟩ := hn
            have HLN := Lib.hid (show (A ++ S.L.drop j).length < maxLen by rw [HC.out.lenL hj]; exact ml hlen)
            have HDS := Lib.hid (HDV.out.set3 ((U : Int) - ((f.s.size : Nat) + (f.l.size : Nat) - (f.s.size : Nat) - (m : Nat)))).drew
            have HE := Lib.hid (show ({ atJ S A j with used := (U : Int) - ((f.s.size : Nat) + (f.l.size : Nat) - (f.s.size : Nat) - (m : Nat)), L := putF (A ++ S.L.drop j) (crO f x) } : Dk) = atJ S (A ++ [crO f x]) (j + 1) by
              unfold atJ
              rw [hn2]
              rw [← HMM.out, ← HU.out] at hn3
              have hu : (U : Int) - ((f.s.size : Nat) + (f.l.size : Nat) - (f.s.size : Nat) - (m : Nat)) = (usd (A ++ [crO f x] ++ S.L.drop (j + 1)) : Nat) := by omega
              rw [hu])
            have HN := Lib.hid hn1
            clear hn1 hn2 hn3
            go_still_tail 15, (by kernel_rfl)
            go_wp2_with (at_mapUpdate; refine wpList_putF _ rfl _ _ _ rfl b (A ++ S.L.drop j) f.n (crO f x) rfl HDS.out.own HLN.out rfl (file_cr HMM.out) rfl HFN.out ?_; intro w5 ho ht)
            have KS : Kp p b wr w5 := HKV.out.trans (((Kp.drew _).trans (Kp.setP _ _ _)).trans (Kp.turned ht))
            have DS := DiskAt.turned HDS.out ho ht
            go_roundw
            case rel =>
              refine ⟨j + 1, A ++ [crO f x], ks, by omega, HN.out, fun y hy => HS.out y (by simp [hy]), by simp at hkl; omega, by go_num, ?_, ?_, hKp.trans KS⟩
              · obtain rfl : ks = [] := List.eq_nil_of_length_eq_zero (by omega)
                exact IntsAt.none_ _ _ _ _
              · have e := HE.out
                rw [← e]
                exact DS
            case measure => simp [intOf]; omega
          · have hcap2 : 1 < cap := by omega
            go_wp2_with (at_lookup; refine wpList_look _ rfl _ _ rfl b (A ++ S.L.drop j) f.n rfl HD.out.own rfl HFN.out ?_; rw [HL.out]; unfold orV flB flN; simp only [])
            obtain ⟨W, hW⟩ : ∃ W, W = wr.alloc (.cells #[.string (f.s ++ f.l), .int .i64 (f.s.size : Nat)] 76) := ⟨_, rfl⟩
            have DW : DiskAt W p b (atJ S A j) := by rw [hW]; exact HD.out.alloc _
            have KW : Kp p b wr W := by rw [hW]; exact Kp.alloc _ _
            have q0 : W.cell? ⟨wr.heap.size, 0, none⟩ = some (.string (f.s ++ f.l)) := by rw [hW]; simp
            have q1 : W.cell? ⟨wr.heap.size, 1, none⟩ = some (.int .i64 (f.s.size : Nat)) := by rw [hW]; simp
            have hWs : wr.heap.size < W.heap.size := cell_lt q0
            obtain ⟨ltW, d0, -, -, d3, -⟩ := DW.cells
            have e3 := DW.blk.frozen 3
            have d3' : W.cell? ⟨p, 3, none⟩ = some (.int .i64 (U : Nat)) := by rw [d3, HU.out]; rfl
            have x0 : W.cell? ⟨kb, ko, none⟩ = some (.int .i64 x) := (KW.cell (by exact cell_lt hx0) (by exact hkb0.2.1) (by exact hkb0.2.2)).trans hx0
            rw [← hW]
            have HDW := Lib.hid DW
            have HKW := Lib.hid KW
            clear hx0 hW DW KW d3 c0 c3' f3 f2 f6 nm lt
            go_quiet (fail)
            go_wp2_with fail
            obtain ⟨V, hV⟩ : ∃ V, V = W.drewN nq := ⟨_, rfl⟩
            have DV : DiskAt V p b (atJ S A j) := by rw [hV]; exact HDW.out.drewN nq
            have KV : Kp p b wr V := by rw [hV]; exact HKW.out.trans (Kp.drewN _ _)
            have v0 : V.cell? ⟨wr.heap.size, 0, none⟩ = some (.string (f.s ++ f.l)) := by rw [hV]; exact q0
            have v1 : V.cell? ⟨wr.heap.size, 1, none⟩ = some (.int .i64 (f.s.size : Nat)) := by rw [hV]; exact q1
            have v3 : V.cell? ⟨p, 3, none⟩ = some (.int .i64 (U : Nat)) := by rw [hV]; exact d3'
            have g3 := DV.blk.frozen 3
            have u0 : V.cell? ⟨p, 0, none⟩ = some (.map (some b)) := by rw [hV]; exact d0
            have hVs : wr.heap.size < V.heap.size := cell_lt v0
            have ltV : p < V.heap.size := cell_lt u0
            rw [← hV]
            have HDV := Lib.hid DV
            have HKV := Lib.hid KV
            clear hV DV KV q0 q1 d3' e3 d0 hWs ltW x0
            have hn := HC.out.next hlt (by rw [← HF2.out]; exact hl0)
            simp only [List.headD_cons, List.tail_cons] at hn
            rw [← HF2.out] at hn
            obtain ⟨hn1, hn2, hn3⟩ := hn
            have HLN := Lib.hid (show (A ++ S.L.drop j).length < maxLen by rw [HC.out.lenL hj]; exact ml hlen)
            have HDS := Lib.hid (HDV.out.set3 ((U : Int) - ((f.s.size : Nat) + (f.l.size : Nat) - (f.s.size : Nat) - (m : Nat)))).drew
            have HE := Lib.hid (show ({ atJ S A j with used := (U : Int) - ((f.s.size : Nat) + (f.l.size : Nat) - (f.s.size : Nat) - (m : Nat)), L := putF (A ++ S.L.drop j) (crO f x) } : Dk) = atJ S (A ++ [crO f x]) (j + 1) by
              unfold atJ
              rw [hn2]
              rw [← HMM.out, ← HU.out] at hn3
              have hu : (U : Int) - ((f.s.size : Nat) + (f.l.size : Nat) - (f.s.size : Nat) - (m : Nat)) = (usd (A ++ [crO f x] ++ S.L.drop (j + 1)) : Nat) := by omega
              rw [hu])
            have HN := Lib.hid hn1
            clear hn1 hn2 hn3
            go_still_tail 15, (by kernel_rfl)
            go_wp2_with (at_mapUpdate; refine wpList_putF _ rfl _ _ _ rfl b (A ++ S.L.drop j) f.n (crO f x) rfl HDS.out.own HLN.out rfl (file_cr HMM.out) rfl HFN.out ?_; intro w5 ho ht)
            have KS : Kp p b wr w5 := HKV.out.trans (((Kp.drew _).trans (Kp.setP _ _ _)).trans (Kp.turned ht))
            have DS := DiskAt.turned HDS.out ho ht
            go_roundw
            case rel =>
              refine ⟨j + 1, A ++ [crO f x], ks, by omega, HN.out, fun y hy => HS.out y (by simp [hy]), by simp at hkl; omega, by go_num, ?_, ?_, hKp.trans KS⟩
              · exact IntsAt.keep (w := wr) (IntsAt.tail HC1.out HX.out _ (fun _ => rfl)) (fun _ => KS.block kb (by have := hkb0.1; have := hb1.size; have := hKp.size; omega) hkb0.2.1 hkb0.2.2)
              · have e := HE.out
                rw [← e]
                exact DS
            case measure => simp [intOf]; omega
    · have hje : j = S.L.length := by omega
      have HDn := Lib.hid (HC.out.done hje)
      go_wp2
      go_end0
      refine ⟨rfl, ?_, ((Kp.of_below hb1).trans hKp).trans ((Kp.setP _ _ _).trans (Kp.setP _ _ _))⟩
      have e : ({ atJ S A j with down := false, fuse := -1 } : Dk) = doCr S ks0 := by
        unfold atJ doCr
        rw [HDn.out]
      rw [← e]
      exact (HD.out.set6 _).set2 _
end
end Go.Proofs.Ytgkphogefpmeaaa
