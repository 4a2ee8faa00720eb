/- What the log leans on: F3. -/
import Derived.Test.YtefknfbmphdafaaGreatF2
namespace Go.Proofs.YtefknfbmphdafaaGreat
open Go.RowKit CrcM FrM

theorem str_eq (a b : ByteArray) (h : a.data.toList = b.data.toList) : (a.toList == b.toList) = true := by rw [ByteArray.toList_eq, ByteArray.toList_eq, h]; simp
theorem str_ne (a b : ByteArray) (h : a.data.toList ≠ b.data.toList) : (a.toList == b.toList) = false := by rw [ByteArray.toList_eq, ByteArray.toList_eq, beq_eq_false_iff_ne]; exact h
theorem hexB_list (k n : Nat) : (hexB k n).data.toList = hex k n := by simp [hexB]

theorem nextPost_good (s : ByteArray) (w : World) (n Q R : Nat) (hQ : Q = 6 + n) (hR : R = 14 + n) (h : nxE s.data.toList = 0) (hn : n = len4 s.data.toList) (h1 : 1 < s.size) (w' : World) (hb : Below w.heap.size w w') :
    NextPost s w (.returned (.tuple #[.agg #[.int .u8 (s[1].toNat : Int), .string (s.extract 6 Q)], .int .i64 (R : Nat), .int .i64 0])) w' := by
  subst hQ hR
  have e1 : nxK s.data.toList = s[1] := by
    unfold nxK
    rw [if_pos h, List.getD_eq_getElem?_getD, List.getElem?_eq_getElem (by rw [← size_list]; exact h1)]
    rfl
  have e2 : nxBb s = s.extract 6 (6 + n) := by unfold nxBb; rw [if_pos h, hn]
  have e3 : nxN s.data.toList = 14 + n := by unfold nxN; rw [if_pos h, hn]
  refine ⟨?_, hb⟩
  unfold frV
  rw [e1, e2, e3, h]
  rfl

set_option maxRecDepth 100000 in
set_option maxHeartbeats 1000000 in
theorem next_good (s : ByteArray) (w : World) (hs : s.size ≤ 9223372036854775807) (g1 : sc head 0 6 s.data.toList = 0) (g2 : ¬ 2000 < len4 s.data.toList)
    (g3 : sc (body (len4 s.data.toList)) 6 (len4 s.data.toList + 8) (s.data.toList.drop 6) = 0) :
    Calls Tryz.prog 81 #[.string s] w (NextPost s w) := by
  have RH := read_head s
  rw [g1] at RH
  replace RH := Lib.hid RH
  obtain ⟨d1, d2, d3, d4⟩ := head_digs _ g1
  have h6 := len6 s d1
  have UN := unhex_any (s.extract 2 6)
  rw [extract_list, List.drop_take, show (6 : Nat) - 2 = 4 from rfl, d2, d3] at UN
  replace UN := Lib.hid UN
  have hxs : (s.extract 2 6).size ≤ 9223372036854775807 := by rw [extract_size]; omega
  have RB := read_body (s.extract 6 s.size)
  rw [extract_rest] at RB
  have hys : (s.extract 6 s.size).size ≤ 9223372036854775807 := by rw [extract_size]; omega
  have hlen := (sc_zero _ _ _ _ g3).1
  have hlen : 14 + len4 s.data.toList ≤ s.size := by rw [size_list]; rw [List.length_drop] at hlen; omega
  have G1 := Lib.hid g1
  have G2 := Lib.hid g2
  have G3 := Lib.hid g3
  obtain ⟨n, hn⟩ : ∃ n, n = len4 s.data.toList := ⟨_, rfl⟩
  replace RB := RB n
  have HN := Lib.hid hn
  rw [← hn] at UN g2 d4 g3 hlen
  rw [g3] at RB
  replace RB := Lib.hid RB
  have htx : (s.extract 1 (6 + n)).size ≤ 9223372036854775807 := by rw [extract_size]; omega
  clear d1 d2 d3 g1 g3 hn
  have i0 : (0 : Int) ≤ (n : Int) := by omega
  have i1 : (14 : Int) + n ≤ (s.size : Int) := by omega
  have i2 : (n : Int) ≤ 2000 := by omega
  go_enter Tryz.func81, Tryz.ntmps81
  go_wp2_with fail
  refine (RH.out _ _ hs (by simp) (by simp) (by simp) (by simp) (by simp) (by simp) (by simp)).mono ?_
  rintro e w1 ⟨r, rfl, hb1⟩
  have hr := ((HasRes.start 50 w).alloc _).step hb1
  clear hb1
  go_wp2_with fail
  refine (UN.out _ hxs).mono ?_
  rintro e w2 ⟨rfl, rfl⟩
  go_wp2_with fail
  refine (RB.out _ (by omega) _ hys (by simp) (by simp) (by simp) (by simp) (by simp)).mono ?_
  rintro e w2 ⟨r2, rfl, hb2⟩
  have hr2 := (hr.alloc _).step hb2
  clear hb2 hr
  go_wp2_with fail
  obtain ⟨Q, hQ⟩ : ∃ Q, Q = 6 + n := ⟨_, rfl⟩
  obtain ⟨R, hR⟩ : ∃ R, R = 14 + n := ⟨_, rfl⟩
  rw [show (6 : Int) + n = (Q : Int) by omega]
  rw [← hQ] at htx
  have v1 : IntKind.i64.wrap ((Q : Int) + 8) = R := by rw [IntWalk.i64_in _ (by omega)]; omega
  have v2 : (0 : Int) ≤ (Q : Int) := by omega
  have v3 : (1 : Int) ≤ (Q : Int) := by omega
  have v4 : (Q : Int) ≤ (R : Int) := by omega
  have v5 : (R : Int) ≤ (s.size : Int) := by omega
  have v6 : (Q : Int) ≤ (s.size : Int) := by omega
  have v7 : (0 : Int) ≤ (R : Int) := by omega
  have HQ := Lib.hid hQ
  have HR := Lib.hid hR
  clear hQ hR i0 i1 i2
  obtain ⟨T, hT⟩ : ∃ T, T = hexB 8 (smm (s.extract 1 Q).data.toList) := ⟨_, rfl⟩
  have TX : ∀ (b : Nat) (W : World), W.cell? ⟨b, 0, none⟩ = some (.string (s.extract 1 Q)) → Calls Tryz.prog 64 #[.slice (some ⟨b, 0, none⟩) 1 1] W fun e w' => e = .returned (.string T) ∧ Below W.heap.size W w' := by
    intro b W h; rw [hT]; exact text_one b _ W htx h
  replace TX := Lib.hid TX
  have HT := Lib.hid hT
  clear hT
  go_region_held3 (fun w' => Below w2.heap.size w2 w')
    (first | exact below_draw | exact Below.alloc (by assumption) (Below.size (by assumption)) _ | exact Below.trans (by assumption) (hb3.mono (Below.size (by assumption))) | exact (by assumption))
    (first | (go_at_call 64; refine (TX.out _ _ (by simp)).mono ?_; rintro e w3 ⟨rfl, hb3⟩) | fail)
  have hr3 := hr2.step (by assumption : Below w2.heap.size w2 w3)
  clear hb3
  obtain ⟨c0, c1, f0, f1⟩ := hr3.cells
  generalize hbq : (!((s.extract Q R).toList == T.toList)) = Bq
  have hdec : if Bq = false then (s.extract Q R).data.toList = T.data.toList else (s.extract Q R).data.toList ≠ T.data.toList := by
    by_cases heq : (s.extract Q R).data.toList = T.data.toList
    · rw [str_eq _ _ heq] at hbq; rw [← hbq]; exact heq
    · rw [str_ne _ _ heq] at hbq; rw [← hbq]; exact heq
  clear hbq
  cases Bq with
  | false =>
    have heq : (s.extract Q R).data.toList = T.data.toList := hdec
    clear hdec
    have hx : (s.data.toList.drop (6 + len4 s.data.toList)).take 8 = hex 8 (smm ((s.data.toList.take (6 + len4 s.data.toList)).drop 1)) := by
      rw [← HN.out, ← HQ.out, ← extract_list, ← hexB_list, ← HT.out, ← heq, extract_list, List.drop_take]
      congr 1
      have := HQ.out; have := HR.out; omega
    have HE := Lib.hid (nxE_ok _ G1.out G2.out G3.out hx)
    clear hx heq
    have q1 : (1 : Int) < (s.size : Int) := by omega
    have q2 : (6 : Int) ≤ (Q : Int) := by have := HQ.out; omega
    have h1 : 1 < s.size := by omega
    go_wp2
    have HG := Lib.hid (nextPost_good s w n Q R HQ.out HR.out HE.out HN.out h1)
    go_region
    go_wp2
    obtain ⟨p1, p2⟩ := hr3.put (.int .u8 (s[1].toNat : Int)) (.string (s.extract 6 Q))
    exact bodyPost_ret (results_row3 (p := 2) (a := 3) (b := 4) rfl _ _ _ _ _ _ _ rfl p1 Tryz.underlying50 rfl info_frame) rfl (HG.out _ p2.drew)
  | true =>
    have heq : (s.extract Q R).data.toList ≠ T.data.toList := hdec
    clear hdec
    have hx : (s.data.toList.drop (6 + len4 s.data.toList)).take 8 ≠ hex 8 (smm ((s.data.toList.take (6 + len4 s.data.toList)).drop 1)) := by
      intro hx
      apply heq
      rw [← HN.out, ← HQ.out, ← extract_list, ← hexB_list, ← HT.out] at hx
      rw [← hx, extract_list, List.drop_take]
      congr 1
      have := HQ.out; have := HR.out; omega
    have HP := Lib.hid (nextPost_bad s 45 w (h := nxE_sum _ G1.out G2.out G3.out hx) (hc := by omega))
    clear hx heq
    go_wp2
    obtain ⟨p1, p2⟩ := hr3.put (.int .u8 0) (.string ⟨#[]⟩)
    exact bodyPost_ret (results_row3 (p := 2) (a := 3) (b := 4) rfl _ _ _ _ _ _ _ rfl p1 Tryz.underlying50 rfl info_frame) rfl (HP.out _ p2)

theorem next_any (s : ByteArray) (w : World) (hs : s.size ≤ 9223372036854775807) : Calls Tryz.prog 81 #[.string s] w (NextPost s w) := by
  by_cases g1 : sc head 0 6 s.data.toList = 0
  · by_cases g2 : 2000 < len4 s.data.toList
    · exact next_bad2 s w hs g1 g2
    · by_cases g3 : sc (body (len4 s.data.toList)) 6 (len4 s.data.toList + 8) (s.data.toList.drop 6) = 0
      · exact next_good s w hs g1 g2 g3
      · exact next_bad3 s w hs g1 g2 g3
  · exact next_bad1 s w hs g1
end Go.Proofs.YtefknfbmphdafaaGreat
namespace Go.Proofs.YtefknfbmphdafaaGreat
open Go.RowKit CrcM FrM

def bytesOf (l : List UInt8) : ByteArray := ⟨l.toArray⟩
theorem bytesOf_list (l : List UInt8) : (bytesOf l).data.toList = l := by simp [bytesOf]
theorem bytesOf_size (l : List UInt8) : (bytesOf l).size = l.length := by show l.toArray.size = _; simp
theorem ba_ext {a b : ByteArray} (h : a.data.toList = b.data.toList) : a = b := by
  apply ByteArray.ext
  exact Array.toList_inj.1 h
theorem append_list (a b : ByteArray) : (a ++ b).data.toList = a.data.toList ++ b.data.toList := by rw [ByteArray.data_append]; simp
def innerB (k : UInt8) (b : ByteArray) : ByteArray := bytesOf (inner k b.data.toList)
def wholeB (k : UInt8) (b : ByteArray) : ByteArray := bytesOf (whole k b.data.toList)
def pkSb (k : UInt8) (b : ByteArray) : ByteArray := bytesOf (pkS k b.data.toList)
theorem inner_is (k : UInt8) (b : ByteArray) : (⟨#[k]⟩ ++ hexB 4 b.size) ++ b = innerB k b := by
  apply ba_ext
  rw [append_list, append_list, hexB_list, innerB, bytesOf_list, size_list]
  simp [inner]
theorem whole_is (k : UInt8) (b : ByteArray) : (⟨#[254]⟩ ++ innerB k b) ++ hexB 8 (smm (innerB k b).data.toList) = wholeB k b := by
  apply ba_ext
  rw [append_list, append_list, hexB_list, innerB, wholeB, bytesOf_list, bytesOf_list]
  simp [whole]
theorem innerB_size (k : UInt8) (b : ByteArray) : (innerB k b).size = 5 + b.size := by
  rw [innerB, bytesOf_size, size_list]; simp [inner, hex_length]; omega
/-- One byte, made into a text, wherever it lies. -/
theorem conv_at (c : UInt8) (g : Nat) (w : World) (h : w.cell? ⟨g, 0, none⟩ = some (.int .u8 c.toNat)) :
    (convert 109 9 (.slice (some ⟨g, 0, none⟩) 1 1)).run Tryz.prog w = .ok (.string ⟨#[c]⟩) w := by
  have := run_convert_bytes_back (P := Tryz.prog) w 109 9 _ ⟨g, 0, none⟩ 1 [c] und_bytes und_u8 und_string (fun j hj => by
    obtain rfl : j = 0 := by simp at hj; exact hj
    simpa [Addr.add] using h)
  exact this

def PackPost (k : UInt8) (b : ByteArray) (w : World) (e : Ending) (w' : World) : Prop :=
  e = .returned (.tuple #[.string (pkSb k b), .int .i64 (pkE k b.data.toList)]) ∧ Below w.heap.size w w'
theorem packPost_bad (k : UInt8) (b : ByteArray) (c : Nat) (w w' : World) (h : pkE k b.data.toList = c) (hc : c ≠ 0) (hb : Below w.heap.size w w') :
    PackPost k b w (.returned (.tuple #[.string ⟨#[]⟩, .int .i64 c])) w' := by
  refine ⟨?_, hb⟩
  unfold pkSb pkS
  rw [if_neg (by omega), h]
  rfl
theorem packPost_ok (k : UInt8) (b : ByteArray) (w w' : World) (h : pkE k b.data.toList = 0) (hb : Below w.heap.size w w') :
    PackPost k b w (.returned (.tuple #[.string (wholeB k b), .int .i64 0])) w' := by
  refine ⟨?_, hb⟩
  unfold pkSb pkS wholeB
  rw [if_pos h, h]
  rfl
theorem below_box (w : World) (o : Obj) : Below w.heap.size w (w.alloc o) := (Below.refl _ _).alloc (Nat.le_refl _) o

theorem wpAnyH_change {P : Program} {md : Region.Mode} {ops : Array Oper} {Q : Exit → Act → World → Prop} {S S' : World → Prop} (h : ∀ w, S' w → S w) :
    ∀ {fuel : Nat} {listed : Array Bool} {a : Act} {w : World}, wpAnyH P md ops Q S' fuel listed a w → wpAnyH P md ops Q S fuel listed a w
  | 0, _, _, _, H => H
  | _ + 1, _, _, _, H => ⟨H.1, fun i hi => wpOp_mono (fun _ _ h' => ⟨h _ h'.1, wpAnyH_change h h'.2⟩) (H.2 i hi)⟩
theorem wpAnyH_add {P : Program} {md : Region.Mode} {ops : Array Oper} {Q : Exit → Act → World → Prop} {S : World → Prop} {fuel : Nat} {listed : Array Bool} {a : Act} {w : World} (p : Addr) (v : Value)
    (hS : S w) (hc : w.cell? p = some v) (H : (S w ∧ w.cell? p = some v) → wpAnyH P md ops Q (fun w' => S w' ∧ w'.cell? p = some v) fuel listed a w) : wpAnyH P md ops Q S fuel listed a w :=
  wpAnyH_change (fun _ h => h.1) (H ⟨hS, hc⟩)
theorem keepW {W w w' : World} (h : Below W.heap.size W w) (hb : Below w.heap.size w w') : Below W.heap.size W w' := h.trans (hb.mono h.size)
theorem keepC {A A' : Prop} {p : Addr} {v : Value} {w w' : World} (h : A ∧ w.cell? p = some v) (hb : Below w.heap.size w w') (hS : A') : A' ∧ w'.cell? p = some v :=
  ⟨hS, (hb.cell (block_lt_of_cell h.2)).trans h.2⟩

set_option maxRecDepth 100000 in
set_option maxHeartbeats 1000000 in
theorem pack_any (k : UInt8) (b : ByteArray) (w : World) (hb : b.size ≤ 9223372036854775807) :
    Calls Tryz.prog 28 #[frV k b] w (PackPost k b w) := by
  have hbl := size_list b
  have HBL := Lib.hid hbl
  clear hbl
  unfold frV
  cases hk : isKind k with
  | false =>
    have HP := Lib.hid (packPost_bad k b 40 w (h := by unfold pkE; rw [if_pos hk]) (hc := by omega))
    have KA := kind_any k
    rw [hk] at KA
    replace KA := Lib.hid KA
    clear hk
    go_enter Tryz.func28, Tryz.ntmps28
    go_wp2_with (go_at_call 60; refine (KA.out _).mono ?_; rintro e w1 ⟨rfl, rfl⟩)
    go_ret2
    exact HP.out _ (below_box _ _)
  | true =>
    have KA := kind_any k
    rw [hk] at KA
    replace KA := Lib.hid KA
    have HK := Lib.hid hk
    clear hk
    by_cases hlong : 2000 < b.size
    · have HP := Lib.hid (packPost_bad k b 41 w (h := by unfold pkE; rw [if_neg (by rw [HK.out]; decide), if_pos (by rw [← HBL.out]; exact hlong)]) (hc := by omega))
      go_enter Tryz.func28, Tryz.ntmps28
      go_wp2_with (go_at_call 60; refine (KA.out _).mono ?_; rintro e w1 ⟨rfl, rfl⟩)
      go_ret2
      exact HP.out _ (below_box _ _)
    · have WA := wrong_any b _ _ tests_plain
      cases hp : b.data.toList.all isPlain with
      | false =>
        rw [hp] at WA
        replace WA := Lib.hid WA
        have HP := Lib.hid (packPost_bad k b 42 w (h := by unfold pkE; rw [if_neg (by rw [HK.out]; decide), if_neg (by rw [← HBL.out]; exact hlong), if_pos hp]) (hc := by omega))
        clear hp
        go_enter Tryz.func28, Tryz.ntmps28
        go_wp2_with (first | (go_at_call 60; refine (KA.out _).mono ?_; rintro e w1 ⟨rfl, rfl⟩) | (go_at_call 61; refine (WA.out _ hb).mono ?_; rintro e w1 ⟨rfl, hb1⟩))
        go_ret2
        exact HP.out _ ((below_box _ _).trans (hb1.mono (by simp)))
      | true =>
        rw [hp] at WA
        replace WA := Lib.hid WA
        have HP := Lib.hid (packPost_ok k b w (h := by unfold pkE; rw [if_neg (by rw [HK.out]; decide), if_neg (by rw [← HBL.out]; exact hlong), if_neg (by rw [hp]; decide)]))
        clear hp
        obtain ⟨C, hC⟩ : ∃ C : ByteArray, C = ⟨#[k]⟩ := ⟨_, rfl⟩
        obtain ⟨M, hM⟩ : ∃ M : ByteArray, M = ⟨#[254]⟩ := ⟨_, rfl⟩
        obtain ⟨H, hH⟩ : ∃ H : ByteArray, H = hexB 4 b.size := ⟨_, rfl⟩
        obtain ⟨I, hI⟩ : ∃ I : ByteArray, I = innerB k b := ⟨_, rfl⟩
        have hcv := conv_at k
        have hcm := conv_at 254
        rw [← hC] at hcv
        rw [show ((254 : UInt8).toNat : Int) = 254 from rfl, ← hM] at hcm
        have hC1 : C.size ≤ 1 := by rw [hC]; exact Nat.le_refl 1
        have hM1 : M.size ≤ 1 := by rw [hM]; exact Nat.le_refl 1
        have hH1 : H.size ≤ 4 := by rw [hH, hexB_size]; exact Nat.le_refl 4
        have HX := hex_any b.size 4
        rw [hexOr_pos 4 b.size (by omega), ← hH] at HX
        replace HX := Lib.hid HX
        have EI := Lib.hid (show C ++ H ++ b = I by rw [hC, hH, hI]; exact inner_is k b)
        have hI1 : I.size ≤ 2005 := by rw [hI, innerB_size]; omega
        have TX : ∀ (g : Nat) (W : World), W.cell? ⟨g, 0, none⟩ = some (.string I) → Calls Tryz.prog 64 #[.slice (some ⟨g, 0, none⟩) 1 1] W fun e w' => e = .returned (.string (hexB 8 (smm I.data.toList))) ∧ Below W.heap.size W w' := by
          intro g W h; exact text_one g I W (by omega) h
        obtain ⟨T, hT⟩ : ∃ T : ByteArray, T = hexB 8 (smm I.data.toList) := ⟨_, rfl⟩
        rw [← hT] at TX
        replace TX := Lib.hid TX
        have hT1 : T.size ≤ 8 := by rw [hT, hexB_size]; exact Nat.le_refl 8
        have EW := Lib.hid (show M ++ I ++ T = wholeB k b by rw [hM, hT, hI]; exact whole_is k b)
        clear hC hM hH hI hT
        go_enter Tryz.func28, Tryz.ntmps28
        go_wp2_with (first | (go_at_call 60; refine (KA.out _).mono ?_; rintro e w1 ⟨rfl, rfl⟩) | (go_at_call 61; refine (WA.out _ hb).mono ?_; rintro e w1 ⟨rfl, hb1⟩))
        have k0 : w1.cell? ⟨w.heap.size, 0, none⟩ = some (.int .u8 k.toNat) := by rw [hb1.cell (by simp)]; simp
        have k1 : w1.cell? ⟨w.heap.size, 1, none⟩ = some (.string b) := by rw [hb1.cell (by simp)]; simp
        have hs1 : w.heap.size < w1.heap.size := by have := hb1.size; simp at this; omega
        have hbw : Below w.heap.size w w1 := (below_box _ _).trans (hb1.mono (by simp))
        clear hb1
        refine wp_region_noPanic ?_
        refine wp_region_held_drew (S := fun w' => ((Below w1.heap.size w1 w') ∧ w'.cell? ⟨w.heap.size, 0, none⟩ = some (.int .u8 k.toNat)) ∧ w'.cell? ⟨w.heap.size, 1, none⟩ = some (.string b)) (by kernel_rfl) ⟨⟨below_draw, k0⟩, k1⟩ (fun hS => ?_)
        refine wpAnyH_take (i := 0) (v := .pointer (some ⟨w.heap.size, 0, none⟩)) rfl (by kernel_rfl) (by kernel_rfl) (by kernel_rfl) (fun _ _ _ h => h) (Or.inl ⟨by rfl, fun wx hSx => ?_⟩) hS ?_
        · go_simp <;> (first | with_reducible rfl | omega)
        simp only [Act.put, List.getElem_toArray, List.getElem_cons_zero, List.setIfInBounds_toArray, List.set_cons_zero, List.set_cons_succ]
        refine wpAnyH_take (i := 1) (v := .int .u8 k.toNat) rfl (by kernel_rfl) (by kernel_rfl) (by kernel_rfl) (fun _ _ _ h => h) (Or.inl ⟨by rfl, fun wx hSx => ?_⟩) hS ?_
        · go_simp <;> (first | with_reducible rfl | omega)
        simp only [Act.put, List.getElem_toArray, List.getElem_cons_zero, List.getElem_cons_succ, List.setIfInBounds_toArray, List.set_cons_zero, List.set_cons_succ]
        refine wpAnyH_take (i := 4) (v := .pointer (some ⟨w.heap.size, 1, none⟩)) rfl (by kernel_rfl) (by kernel_rfl) (by kernel_rfl) (fun _ _ _ h => h) (Or.inl ⟨by rfl, fun wx hSx => ?_⟩) hS ?_
        · go_simp <;> (first | with_reducible rfl | omega)
        simp only [Act.put, List.getElem_toArray, List.getElem_cons_zero, List.getElem_cons_succ, List.setIfInBounds_toArray, List.set_cons_zero, List.set_cons_succ]
        refine wpAnyH_take (i := 5) (v := .string b) rfl (by kernel_rfl) (by kernel_rfl) (by kernel_rfl) (fun _ _ _ h => h) (Or.inl ⟨by rfl, fun wx hSx => ?_⟩) hS ?_
        · go_simp <;> (first | with_reducible rfl | omega)
        simp only [Act.put, List.getElem_toArray, List.getElem_cons_zero, List.getElem_cons_succ, List.setIfInBounds_toArray, List.set_cons_zero, List.set_cons_succ]
        refine wpAnyH_take (i := 6) (v := .int .i64 b.size) rfl (by kernel_rfl) (by kernel_rfl) (by kernel_rfl) (fun _ _ _ h => h) (Or.inl ⟨by rfl, fun wx hSx => ?_⟩) hS ?_
        · go_simp <;> (first | with_reducible rfl | omega)
        simp only [Act.put, List.getElem_toArray, List.getElem_cons_zero, List.getElem_cons_succ, List.setIfInBounds_toArray, List.set_cons_zero, List.set_cons_succ]
        refine wpAnyH_take (i := 9) (v := .pointer (some ⟨w.heap.size, 1, none⟩)) rfl (by kernel_rfl) (by kernel_rfl) (by kernel_rfl) (fun _ _ _ h => h) (Or.inl ⟨by rfl, fun wx hSx => ?_⟩) hS ?_
        · go_simp <;> (first | with_reducible rfl | omega)
        simp only [Act.put, List.getElem_toArray, List.getElem_cons_zero, List.getElem_cons_succ, List.setIfInBounds_toArray, List.set_cons_zero, List.set_cons_succ]
        refine wpAnyH_take (i := 10) (v := .string b) rfl (by kernel_rfl) (by kernel_rfl) (by kernel_rfl) (fun _ _ _ h => h) (Or.inl ⟨by rfl, fun wx hSx => ?_⟩) hS ?_
        · go_simp <;> (first | with_reducible rfl | omega)
        simp only [Act.put, List.getElem_toArray, List.getElem_cons_zero, List.getElem_cons_succ, List.setIfInBounds_toArray, List.set_cons_zero, List.set_cons_succ]
        refine wpAnyH_ready (rs := [2, 7]) (by kernel_rfl) (by simp) ?_
        refine AllReadyH.cons rfl (fun K hK => ?_) (AllReadyH.cons rfl (fun K hK => ?_) AllReadyH.nil)
        · simp only [List.getElem_toArray, List.getElem_cons_zero, List.getElem_cons_succ]
          go_simp
          refine hK.out _ _ (keepC hS (by exact below_box _ _) (keepC hS.1 (by exact below_box _ _) (keepW hS.1.1 (by exact below_box _ _)))) (fun hS1 => ?_)
          clear hK
          refine wpAnyH_add ⟨w1.heap.size, 0, none⟩ (.int .u8 k.toNat) hS1 (by simp) (fun hS2 => ?_)
          refine wpAnyH_take (i := 3) (v := .string C) rfl (by kernel_rfl) (by kernel_rfl) (by kernel_rfl) (fun _ _ _ h => h) (Or.inl ⟨by rfl, fun wx hSx => ?_⟩) hS2 ?_
          · go_simp <;> (first | with_reducible rfl | omega)
          simp only [Act.put, List.getElem_toArray, List.getElem_cons_zero, List.getElem_cons_succ, List.setIfInBounds_toArray, List.set_cons_zero, List.set_cons_succ]
          refine wpAnyH_ready (rs := [7]) (by kernel_rfl) (by simp) ?_
          refine AllReadyH.cons rfl (fun K hK => ?_) AllReadyH.nil
          simp only [List.getElem_toArray, List.getElem_cons_zero, List.getElem_cons_succ]
          go_simp
          refine (HX.out _ (by omega) (by omega) (by omega)).mono ?_
          rintro e w2 ⟨rfl, hw2⟩
          refine hK.out _ _ (keepC hS2 hw2 (keepC hS2.1 hw2 (keepC hS2.1.1 hw2 (keepW hS2.1.1.1 hw2)))) (fun hS3 => ?_)
          clear hK
          refine wpAnyH_take (i := 8) (v := .string (C ++ H)) rfl (by kernel_rfl) (by kernel_rfl) (by kernel_rfl) (fun _ _ _ h => h) (Or.inl ⟨by rfl, fun wx hSx => ?_⟩) hS3 ?_
          · go_simp <;> (first | with_reducible rfl | omega)
          simp only [Act.put, List.getElem_toArray, List.getElem_cons_zero, List.getElem_cons_succ, List.setIfInBounds_toArray, List.set_cons_zero, List.set_cons_succ]
          refine wpAnyH_take (i := 11) (v := .string (C ++ H ++ b)) rfl (by kernel_rfl) (by kernel_rfl) (by kernel_rfl) (fun _ _ _ h => h) (Or.inl ⟨by rfl, fun wx hSx => ?_⟩) hS3 ?_
          · go_simp <;> (first | with_reducible rfl | omega)
          simp only [Act.put, List.getElem_toArray, List.getElem_cons_zero, List.getElem_cons_succ, List.setIfInBounds_toArray, List.set_cons_zero, List.set_cons_succ]
          refine wpAnyH_take (i := 12) (v := .string (C ++ H ++ b)) rfl (by kernel_rfl) (by kernel_rfl) (by kernel_rfl) (fun _ _ _ h => h) (Or.inl ⟨by rfl, fun wx hSx => ?_⟩) hS3 ?_
          · go_simp <;> (first | with_reducible rfl | omega)
          simp only [Act.put, List.getElem_toArray, List.getElem_cons_zero, List.getElem_cons_succ, List.setIfInBounds_toArray, List.set_cons_zero, List.set_cons_succ]
          refine wpAnyH_done (by kernel_rfl) ?_ _
          refine NoPanic.normal ?_
          rw [EI.out]
          have hbW := keepW hbw hS3.1.1.1
          clear hw2 hS hS1 hS2 hS3
          go_wp2_with fail
          refine wp_region_noPanic ?_
          refine wp_region_held_drew (S := fun w' => Below w2.heap.size w2 w') (by kernel_rfl) (below_draw) (fun hS => ?_)
          refine wpAnyH_take (i := 2) (v := .string I) rfl (by kernel_rfl) (by kernel_rfl) (by kernel_rfl) (fun _ _ _ h => h) (Or.inl ⟨by rfl, fun wx hSx => ?_⟩) hS ?_
          · go_simp <;> (first | with_reducible rfl | omega)
          simp only [Act.put, List.getElem_toArray, List.getElem_cons_zero, List.getElem_cons_succ, List.setIfInBounds_toArray, List.set_cons_zero, List.set_cons_succ]
          refine wpAnyH_take (i := 4) (v := .string I) rfl (by kernel_rfl) (by kernel_rfl) (by kernel_rfl) (fun _ _ _ h => h) (Or.inl ⟨by rfl, fun wx hSx => ?_⟩) hS ?_
          · go_simp <;> (first | with_reducible rfl | omega)
          simp only [Act.put, List.getElem_toArray, List.getElem_cons_zero, List.getElem_cons_succ, List.setIfInBounds_toArray, List.set_cons_zero, List.set_cons_succ]
          refine wpAnyH_ready (rs := [0, 5]) (by kernel_rfl) (by simp) ?_
          refine AllReadyH.cons rfl (fun K hK => ?_) (AllReadyH.cons rfl (fun K hK => ?_) AllReadyH.nil)
          · simp only [List.getElem_toArray, List.getElem_cons_zero]
            go_simp
            refine hK.out _ _ (keepW hS (by exact below_box _ _)) (fun hS1 => ?_)
            clear hK
            refine wpAnyH_add ⟨w2.heap.size, 0, none⟩ (.int .u8 254) hS1 (by simp) (fun hS2 => ?_)
            refine wpAnyH_take (i := 1) (v := .string M) rfl (by kernel_rfl) (by kernel_rfl) (by kernel_rfl) (fun _ _ _ h => h) (Or.inl ⟨by rfl, fun wx hSx => ?_⟩) hS2 ?_
            · go_simp <;> (first | with_reducible rfl | omega)
            simp only [Act.put, List.getElem_toArray, List.getElem_cons_zero, List.getElem_cons_succ, List.setIfInBounds_toArray, List.set_cons_zero, List.set_cons_succ]
            refine wpAnyH_take (i := 3) (v := .string (M ++ I)) rfl (by kernel_rfl) (by kernel_rfl) (by kernel_rfl) (fun _ _ _ h => h) (Or.inl ⟨by rfl, fun wx hSx => ?_⟩) hS2 ?_
            · go_simp <;> (first | with_reducible rfl | omega)
            simp only [Act.put, List.getElem_toArray, List.getElem_cons_zero, List.getElem_cons_succ, List.setIfInBounds_toArray, List.set_cons_zero, List.set_cons_succ]
            refine wpAnyH_ready (rs := [5]) (by kernel_rfl) (by simp) ?_
            refine AllReadyH.cons rfl (fun K hK => ?_) AllReadyH.nil
            simp only [List.getElem_toArray, List.getElem_cons_zero, List.getElem_cons_succ]
            go_simp
            refine hK.out _ _ (keepC hS2 (by exact below_box _ _) (keepW hS2.1 (by exact below_box _ _))) (fun hS3 => ?_)
            clear hK
            refine wpAnyH_ready (rs := [6]) (by kernel_rfl) (by simp) ?_
            refine AllReadyH.cons rfl (fun K hK => ?_) AllReadyH.nil
            simp only [List.getElem_toArray, List.getElem_cons_zero, List.getElem_cons_succ]
            go_simp
            refine (TX.out _ _ (by simp)).mono ?_
            rintro e w5 ⟨rfl, hw5⟩
            refine hK.out _ _ (keepC hS3 hw5 (keepW hS3.1 hw5)) (fun hS4 => ?_)
            clear hK
            refine wpAnyH_take (i := 7) (v := .string (M ++ I ++ T)) rfl (by kernel_rfl) (by kernel_rfl) (by kernel_rfl) (fun _ _ _ h => h) (Or.inl ⟨by rfl, fun wx hSx => ?_⟩) hS4 ?_
            · go_simp <;> (first | with_reducible rfl | omega)
            simp only [Act.put, List.getElem_toArray, List.getElem_cons_zero, List.getElem_cons_succ, List.setIfInBounds_toArray, List.set_cons_zero, List.set_cons_succ]
            refine wpAnyH_take (i := 8) (v := .string (M ++ I ++ T)) rfl (by kernel_rfl) (by kernel_rfl) (by kernel_rfl) (fun _ _ _ h => h) (Or.inl ⟨by rfl, fun wx hSx => ?_⟩) hS4 ?_
            · go_simp <;> (first | with_reducible rfl | omega)
            simp only [Act.put, List.getElem_toArray, List.getElem_cons_zero, List.getElem_cons_succ, List.setIfInBounds_toArray, List.set_cons_zero, List.set_cons_succ]
            refine wpAnyH_take (i := 9) (v := .int .i64 0) rfl (by kernel_rfl) (by kernel_rfl) (by kernel_rfl) (fun _ _ _ h => h) (Or.inl ⟨by rfl, fun wx hSx => ?_⟩) hS4 ?_
            · go_simp <;> (first | with_reducible rfl | omega)
            simp only [Act.put, List.getElem_toArray, List.getElem_cons_zero, List.getElem_cons_succ, List.setIfInBounds_toArray, List.set_cons_zero, List.set_cons_succ]
            refine wpAnyH_done (by kernel_rfl) ?_ _
            refine NoPanic.normal ?_
            rw [EW.out]
            go_wp2
            go_ret2
            exact HP.out _ (keepW hbW hS4.1)
          · simp only [List.getElem_toArray, List.getElem_cons_zero, List.getElem_cons_succ]
            go_simp
            refine hK.out _ _ (keepW hS (by exact below_box _ _)) (fun hS1 => ?_)
            clear hK
            refine wpAnyH_add ⟨w2.heap.size, 0, none⟩ (.string I) hS1 (by simp) (fun hS2 => ?_)
            refine wpAnyH_ready (rs := [0, 6]) (by kernel_rfl) (by simp) ?_
            refine AllReadyH.cons rfl (fun K hK => ?_) (AllReadyH.cons rfl (fun K hK => ?_) AllReadyH.nil)
            · simp only [List.getElem_toArray, List.getElem_cons_zero]
              go_simp
              refine hK.out _ _ (keepC hS2 (by exact below_box _ _) (keepW hS2.1 (by exact below_box _ _))) (fun hS3 => ?_)
              clear hK
              refine wpAnyH_add ⟨w2.heap.size + 1, 0, none⟩ (.int .u8 254) hS3 (by simp) (fun hS4 => ?_)
              refine wpAnyH_take (i := 1) (v := .string M) rfl (by kernel_rfl) (by kernel_rfl) (by kernel_rfl) (fun _ _ _ h => h) (Or.inl ⟨by rfl, fun wx hSx => ?_⟩) hS4 ?_
              · go_simp <;> (first | with_reducible rfl | omega)
              simp only [Act.put, List.getElem_toArray, List.getElem_cons_zero, List.getElem_cons_succ, List.setIfInBounds_toArray, List.set_cons_zero, List.set_cons_succ]
              refine wpAnyH_take (i := 3) (v := .string (M ++ I)) rfl (by kernel_rfl) (by kernel_rfl) (by kernel_rfl) (fun _ _ _ h => h) (Or.inl ⟨by rfl, fun wx hSx => ?_⟩) hS4 ?_
              · go_simp <;> (first | with_reducible rfl | omega)
              simp only [Act.put, List.getElem_toArray, List.getElem_cons_zero, List.getElem_cons_succ, List.setIfInBounds_toArray, List.set_cons_zero, List.set_cons_succ]
              refine wpAnyH_ready (rs := [6]) (by kernel_rfl) (by simp) ?_
              refine AllReadyH.cons rfl (fun K hK => ?_) AllReadyH.nil
              simp only [List.getElem_toArray, List.getElem_cons_zero, List.getElem_cons_succ]
              go_simp
              refine (TX.out _ _ (by simp)).mono ?_
              rintro e w5 ⟨rfl, hw5⟩
              refine hK.out _ _ (keepC hS4 hw5 (keepC hS4.1 hw5 (keepW hS4.1.1 hw5))) (fun hS5 => ?_)
              clear hK
              refine wpAnyH_take (i := 7) (v := .string (M ++ I ++ T)) rfl (by kernel_rfl) (by kernel_rfl) (by kernel_rfl) (fun _ _ _ h => h) (Or.inl ⟨by rfl, fun wx hSx => ?_⟩) hS5 ?_
              · go_simp <;> (first | with_reducible rfl | omega)
              simp only [Act.put, List.getElem_toArray, List.getElem_cons_zero, List.getElem_cons_succ, List.setIfInBounds_toArray, List.set_cons_zero, List.set_cons_succ]
              refine wpAnyH_take (i := 8) (v := .string (M ++ I ++ T)) rfl (by kernel_rfl) (by kernel_rfl) (by kernel_rfl) (fun _ _ _ h => h) (Or.inl ⟨by rfl, fun wx hSx => ?_⟩) hS5 ?_
              · go_simp <;> (first | with_reducible rfl | omega)
              simp only [Act.put, List.getElem_toArray, List.getElem_cons_zero, List.getElem_cons_succ, List.setIfInBounds_toArray, List.set_cons_zero, List.set_cons_succ]
              refine wpAnyH_take (i := 9) (v := .int .i64 0) rfl (by kernel_rfl) (by kernel_rfl) (by kernel_rfl) (fun _ _ _ h => h) (Or.inl ⟨by rfl, fun wx hSx => ?_⟩) hS5 ?_
              · go_simp <;> (first | with_reducible rfl | omega)
              simp only [Act.put, List.getElem_toArray, List.getElem_cons_zero, List.getElem_cons_succ, List.setIfInBounds_toArray, List.set_cons_zero, List.set_cons_succ]
              refine wpAnyH_done (by kernel_rfl) ?_ _
              refine NoPanic.normal ?_
              rw [EW.out]
              go_wp2
              go_ret2
              exact HP.out _ (keepW hbW hS5.1.1)
            · simp only [List.getElem_toArray, List.getElem_cons_zero, List.getElem_cons_succ]
              go_simp
              refine (TX.out _ _ (by simp)).mono ?_
              rintro e w5 ⟨rfl, hw5⟩
              refine hK.out _ _ (keepC hS2 hw5 (keepW hS2.1 hw5)) (fun hS3 => ?_)
              clear hK
              refine wpAnyH_ready (rs := [0]) (by kernel_rfl) (by simp) ?_
              refine AllReadyH.cons rfl (fun K hK => ?_) AllReadyH.nil
              simp only [List.getElem_toArray, List.getElem_cons_zero]
              go_simp
              refine hK.out _ _ (keepC hS3 (by exact below_box _ _) (keepW hS3.1 (by exact below_box _ _))) (fun hS4 => ?_)
              clear hK
              refine wpAnyH_add ⟨w5.heap.size, 0, none⟩ (.int .u8 254) hS4 (by simp) (fun hS5 => ?_)
              refine wpAnyH_take (i := 1) (v := .string M) rfl (by kernel_rfl) (by kernel_rfl) (by kernel_rfl) (fun _ _ _ h => h) (Or.inl ⟨by rfl, fun wx hSx => ?_⟩) hS5 ?_
              · go_simp <;> (first | with_reducible rfl | omega)
              simp only [Act.put, List.getElem_toArray, List.getElem_cons_zero, List.getElem_cons_succ, List.setIfInBounds_toArray, List.set_cons_zero, List.set_cons_succ]
              refine wpAnyH_take (i := 3) (v := .string (M ++ I)) rfl (by kernel_rfl) (by kernel_rfl) (by kernel_rfl) (fun _ _ _ h => h) (Or.inl ⟨by rfl, fun wx hSx => ?_⟩) hS5 ?_
              · go_simp <;> (first | with_reducible rfl | omega)
              simp only [Act.put, List.getElem_toArray, List.getElem_cons_zero, List.getElem_cons_succ, List.setIfInBounds_toArray, List.set_cons_zero, List.set_cons_succ]
              refine wpAnyH_take (i := 7) (v := .string (M ++ I ++ T)) rfl (by kernel_rfl) (by kernel_rfl) (by kernel_rfl) (fun _ _ _ h => h) (Or.inl ⟨by rfl, fun wx hSx => ?_⟩) hS5 ?_
              · go_simp <;> (first | with_reducible rfl | omega)
              simp only [Act.put, List.getElem_toArray, List.getElem_cons_zero, List.getElem_cons_succ, List.setIfInBounds_toArray, List.set_cons_zero, List.set_cons_succ]
              refine wpAnyH_take (i := 8) (v := .string (M ++ I ++ T)) rfl (by kernel_rfl) (by kernel_rfl) (by kernel_rfl) (fun _ _ _ h => h) (Or.inl ⟨by rfl, fun wx hSx => ?_⟩) hS5 ?_
              · go_simp <;> (first | with_reducible rfl | omega)
              simp only [Act.put, List.getElem_toArray, List.getElem_cons_zero, List.getElem_cons_succ, List.setIfInBounds_toArray, List.set_cons_zero, List.set_cons_succ]
              refine wpAnyH_take (i := 9) (v := .int .i64 0) rfl (by kernel_rfl) (by kernel_rfl) (by kernel_rfl) (fun _ _ _ h => h) (Or.inl ⟨by rfl, fun wx hSx => ?_⟩) hS5 ?_
              · go_simp <;> (first | with_reducible rfl | omega)
              simp only [Act.put, List.getElem_toArray, List.getElem_cons_zero, List.getElem_cons_succ, List.setIfInBounds_toArray, List.set_cons_zero, List.set_cons_succ]
              refine wpAnyH_done (by kernel_rfl) ?_ _
              refine NoPanic.normal ?_
              rw [EW.out]
              go_wp2
              go_ret2
              exact HP.out _ (keepW hbW hS5.1.1)
        · simp only [List.getElem_toArray, List.getElem_cons_zero, List.getElem_cons_succ]
          go_simp
          refine (HX.out _ (by omega) (by omega) (by omega)).mono ?_
          rintro e w2 ⟨rfl, hw2⟩
          refine hK.out _ _ (keepC hS hw2 (keepC hS.1 hw2 (keepW hS.1.1 hw2))) (fun hS1 => ?_)
          clear hK
          refine wpAnyH_ready (rs := [2]) (by kernel_rfl) (by simp) ?_
          refine AllReadyH.cons rfl (fun K hK => ?_) AllReadyH.nil
          simp only [List.getElem_toArray, List.getElem_cons_zero, List.getElem_cons_succ]
          go_simp
          refine hK.out _ _ (keepC hS1 (by exact below_box _ _) (keepC hS1.1 (by exact below_box _ _) (keepW hS1.1.1 (by exact below_box _ _)))) (fun hS2 => ?_)
          clear hK
          refine wpAnyH_add ⟨w2.heap.size, 0, none⟩ (.int .u8 k.toNat) hS2 (by simp) (fun hS3 => ?_)
          refine wpAnyH_take (i := 3) (v := .string C) rfl (by kernel_rfl) (by kernel_rfl) (by kernel_rfl) (fun _ _ _ h => h) (Or.inl ⟨by rfl, fun wx hSx => ?_⟩) hS3 ?_
          · go_simp <;> (first | with_reducible rfl | omega)
          simp only [Act.put, List.getElem_toArray, List.getElem_cons_zero, List.getElem_cons_succ, List.setIfInBounds_toArray, List.set_cons_zero, List.set_cons_succ]
          refine wpAnyH_take (i := 8) (v := .string (C ++ H)) rfl (by kernel_rfl) (by kernel_rfl) (by kernel_rfl) (fun _ _ _ h => h) (Or.inl ⟨by rfl, fun wx hSx => ?_⟩) hS3 ?_
          · go_simp <;> (first | with_reducible rfl | omega)
          simp only [Act.put, List.getElem_toArray, List.getElem_cons_zero, List.getElem_cons_succ, List.setIfInBounds_toArray, List.set_cons_zero, List.set_cons_succ]
          refine wpAnyH_take (i := 11) (v := .string (C ++ H ++ b)) rfl (by kernel_rfl) (by kernel_rfl) (by kernel_rfl) (fun _ _ _ h => h) (Or.inl ⟨by rfl, fun wx hSx => ?_⟩) hS3 ?_
          · go_simp <;> (first | with_reducible rfl | omega)
          simp only [Act.put, List.getElem_toArray, List.getElem_cons_zero, List.getElem_cons_succ, List.setIfInBounds_toArray, List.set_cons_zero, List.set_cons_succ]
          refine wpAnyH_take (i := 12) (v := .string (C ++ H ++ b)) rfl (by kernel_rfl) (by kernel_rfl) (by kernel_rfl) (fun _ _ _ h => h) (Or.inl ⟨by rfl, fun wx hSx => ?_⟩) hS3 ?_
          · go_simp <;> (first | with_reducible rfl | omega)
          simp only [Act.put, List.getElem_toArray, List.getElem_cons_zero, List.getElem_cons_succ, List.setIfInBounds_toArray, List.set_cons_zero, List.set_cons_succ]
          refine wpAnyH_done (by kernel_rfl) ?_ _
          refine NoPanic.normal ?_
          rw [EI.out]
          have hbW := keepW hbw hS3.1.1.1
          clear hw2 hS hS1 hS2 hS3
          obtain ⟨w3, hw3⟩ : ∃ w3, w3 = w2.alloc (.cells #[.int .u8 k.toNat] 5) := ⟨_, rfl⟩
          rw [← hw3] at hbW ⊢
          clear hw3
          go_wp2_with fail
          refine wp_region_noPanic ?_
          refine wp_region_held_drew (S := fun w' => Below w3.heap.size w3 w') (by kernel_rfl) (below_draw) (fun hS => ?_)
          refine wpAnyH_take (i := 2) (v := .string I) rfl (by kernel_rfl) (by kernel_rfl) (by kernel_rfl) (fun _ _ _ h => h) (Or.inl ⟨by rfl, fun wx hSx => ?_⟩) hS ?_
          · go_simp <;> (first | with_reducible rfl | omega)
          simp only [Act.put, List.getElem_toArray, List.getElem_cons_zero, List.getElem_cons_succ, List.setIfInBounds_toArray, List.set_cons_zero, List.set_cons_succ]
          refine wpAnyH_take (i := 4) (v := .string I) rfl (by kernel_rfl) (by kernel_rfl) (by kernel_rfl) (fun _ _ _ h => h) (Or.inl ⟨by rfl, fun wx hSx => ?_⟩) hS ?_
          · go_simp <;> (first | with_reducible rfl | omega)
          simp only [Act.put, List.getElem_toArray, List.getElem_cons_zero, List.getElem_cons_succ, List.setIfInBounds_toArray, List.set_cons_zero, List.set_cons_succ]
          refine wpAnyH_ready (rs := [0, 5]) (by kernel_rfl) (by simp) ?_
          refine AllReadyH.cons rfl (fun K hK => ?_) (AllReadyH.cons rfl (fun K hK => ?_) AllReadyH.nil)
          · simp only [List.getElem_toArray, List.getElem_cons_zero]
            go_simp
            refine hK.out _ _ (keepW hS (by exact below_box _ _)) (fun hS1 => ?_)
            clear hK
            refine wpAnyH_add ⟨w3.heap.size, 0, none⟩ (.int .u8 254) hS1 (by simp) (fun hS2 => ?_)
            refine wpAnyH_take (i := 1) (v := .string M) rfl (by kernel_rfl) (by kernel_rfl) (by kernel_rfl) (fun _ _ _ h => h) (Or.inl ⟨by rfl, fun wx hSx => ?_⟩) hS2 ?_
            · go_simp <;> (first | with_reducible rfl | omega)
            simp only [Act.put, List.getElem_toArray, List.getElem_cons_zero, List.getElem_cons_succ, List.setIfInBounds_toArray, List.set_cons_zero, List.set_cons_succ]
            refine wpAnyH_take (i := 3) (v := .string (M ++ I)) rfl (by kernel_rfl) (by kernel_rfl) (by kernel_rfl) (fun _ _ _ h => h) (Or.inl ⟨by rfl, fun wx hSx => ?_⟩) hS2 ?_
            · go_simp <;> (first | with_reducible rfl | omega)
            simp only [Act.put, List.getElem_toArray, List.getElem_cons_zero, List.getElem_cons_succ, List.setIfInBounds_toArray, List.set_cons_zero, List.set_cons_succ]
            refine wpAnyH_ready (rs := [5]) (by kernel_rfl) (by simp) ?_
            refine AllReadyH.cons rfl (fun K hK => ?_) AllReadyH.nil
            simp only [List.getElem_toArray, List.getElem_cons_zero, List.getElem_cons_succ]
            go_simp
            refine hK.out _ _ (keepC hS2 (by exact below_box _ _) (keepW hS2.1 (by exact below_box _ _))) (fun hS3 => ?_)
            clear hK
            refine wpAnyH_ready (rs := [6]) (by kernel_rfl) (by simp) ?_
            refine AllReadyH.cons rfl (fun K hK => ?_) AllReadyH.nil
            simp only [List.getElem_toArray, List.getElem_cons_zero, List.getElem_cons_succ]
            go_simp
            refine (TX.out _ _ (by simp)).mono ?_
            rintro e w5 ⟨rfl, hw5⟩
            refine hK.out _ _ (keepC hS3 hw5 (keepW hS3.1 hw5)) (fun hS4 => ?_)
            clear hK
            refine wpAnyH_take (i := 7) (v := .string (M ++ I ++ T)) rfl (by kernel_rfl) (by kernel_rfl) (by kernel_rfl) (fun _ _ _ h => h) (Or.inl ⟨by rfl, fun wx hSx => ?_⟩) hS4 ?_
            · go_simp <;> (first | with_reducible rfl | omega)
            simp only [Act.put, List.getElem_toArray, List.getElem_cons_zero, List.getElem_cons_succ, List.setIfInBounds_toArray, List.set_cons_zero, List.set_cons_succ]
            refine wpAnyH_take (i := 8) (v := .string (M ++ I ++ T)) rfl (by kernel_rfl) (by kernel_rfl) (by kernel_rfl) (fun _ _ _ h => h) (Or.inl ⟨by rfl, fun wx hSx => ?_⟩) hS4 ?_
            · go_simp <;> (first | with_reducible rfl | omega)
            simp only [Act.put, List.getElem_toArray, List.getElem_cons_zero, List.getElem_cons_succ, List.setIfInBounds_toArray, List.set_cons_zero, List.set_cons_succ]
            refine wpAnyH_take (i := 9) (v := .int .i64 0) rfl (by kernel_rfl) (by kernel_rfl) (by kernel_rfl) (fun _ _ _ h => h) (Or.inl ⟨by rfl, fun wx hSx => ?_⟩) hS4 ?_
            · go_simp <;> (first | with_reducible rfl | omega)
            simp only [Act.put, List.getElem_toArray, List.getElem_cons_zero, List.getElem_cons_succ, List.setIfInBounds_toArray, List.set_cons_zero, List.set_cons_succ]
            refine wpAnyH_done (by kernel_rfl) ?_ _
            refine NoPanic.normal ?_
            rw [EW.out]
            go_wp2
            go_ret2
            exact HP.out _ (keepW hbW hS4.1)
          · simp only [List.getElem_toArray, List.getElem_cons_zero, List.getElem_cons_succ]
            go_simp
            refine hK.out _ _ (keepW hS (by exact below_box _ _)) (fun hS1 => ?_)
            clear hK
            refine wpAnyH_add ⟨w3.heap.size, 0, none⟩ (.string I) hS1 (by simp) (fun hS2 => ?_)
            refine wpAnyH_ready (rs := [0, 6]) (by kernel_rfl) (by simp) ?_
            refine AllReadyH.cons rfl (fun K hK => ?_) (AllReadyH.cons rfl (fun K hK => ?_) AllReadyH.nil)
            · simp only [List.getElem_toArray, List.getElem_cons_zero]
              go_simp
              refine hK.out _ _ (keepC hS2 (by exact below_box _ _) (keepW hS2.1 (by exact below_box _ _))) (fun hS3 => ?_)
              clear hK
              refine wpAnyH_add ⟨w3.heap.size + 1, 0, none⟩ (.int .u8 254) hS3 (by simp) (fun hS4 => ?_)
              refine wpAnyH_take (i := 1) (v := .string M) rfl (by kernel_rfl) (by kernel_rfl) (by kernel_rfl) (fun _ _ _ h => h) (Or.inl ⟨by rfl, fun wx hSx => ?_⟩) hS4 ?_
              · go_simp <;> (first | with_reducible rfl | omega)
              simp only [Act.put, List.getElem_toArray, List.getElem_cons_zero, List.getElem_cons_succ, List.setIfInBounds_toArray, List.set_cons_zero, List.set_cons_succ]
              refine wpAnyH_take (i := 3) (v := .string (M ++ I)) rfl (by kernel_rfl) (by kernel_rfl) (by kernel_rfl) (fun _ _ _ h => h) (Or.inl ⟨by rfl, fun wx hSx => ?_⟩) hS4 ?_
              · go_simp <;> (first | with_reducible rfl | omega)
              simp only [Act.put, List.getElem_toArray, List.getElem_cons_zero, List.getElem_cons_succ, List.setIfInBounds_toArray, List.set_cons_zero, List.set_cons_succ]
              refine wpAnyH_ready (rs := [6]) (by kernel_rfl) (by simp) ?_
              refine AllReadyH.cons rfl (fun K hK => ?_) AllReadyH.nil
              simp only [List.getElem_toArray, List.getElem_cons_zero, List.getElem_cons_succ]
              go_simp
              refine (TX.out _ _ (by simp)).mono ?_
              rintro e w5 ⟨rfl, hw5⟩
              refine hK.out _ _ (keepC hS4 hw5 (keepC hS4.1 hw5 (keepW hS4.1.1 hw5))) (fun hS5 => ?_)
              clear hK
              refine wpAnyH_take (i := 7) (v := .string (M ++ I ++ T)) rfl (by kernel_rfl) (by kernel_rfl) (by kernel_rfl) (fun _ _ _ h => h) (Or.inl ⟨by rfl, fun wx hSx => ?_⟩) hS5 ?_
              · go_simp <;> (first | with_reducible rfl | omega)
              simp only [Act.put, List.getElem_toArray, List.getElem_cons_zero, List.getElem_cons_succ, List.setIfInBounds_toArray, List.set_cons_zero, List.set_cons_succ]
              refine wpAnyH_take (i := 8) (v := .string (M ++ I ++ T)) rfl (by kernel_rfl) (by kernel_rfl) (by kernel_rfl) (fun _ _ _ h => h) (Or.inl ⟨by rfl, fun wx hSx => ?_⟩) hS5 ?_
              · go_simp <;> (first | with_reducible rfl | omega)
              simp only [Act.put, List.getElem_toArray, List.getElem_cons_zero, List.getElem_cons_succ, List.setIfInBounds_toArray, List.set_cons_zero, List.set_cons_succ]
              refine wpAnyH_take (i := 9) (v := .int .i64 0) rfl (by kernel_rfl) (by kernel_rfl) (by kernel_rfl) (fun _ _ _ h => h) (Or.inl ⟨by rfl, fun wx hSx => ?_⟩) hS5 ?_
              · go_simp <;> (first | with_reducible rfl | omega)
              simp only [Act.put, List.getElem_toArray, List.getElem_cons_zero, List.getElem_cons_succ, List.setIfInBounds_toArray, List.set_cons_zero, List.set_cons_succ]
              refine wpAnyH_done (by kernel_rfl) ?_ _
              refine NoPanic.normal ?_
              rw [EW.out]
              go_wp2
              go_ret2
              exact HP.out _ (keepW hbW hS5.1.1)
            · simp only [List.getElem_toArray, List.getElem_cons_zero, List.getElem_cons_succ]
              go_simp
              refine (TX.out _ _ (by simp)).mono ?_
              rintro e w5 ⟨rfl, hw5⟩
              refine hK.out _ _ (keepC hS2 hw5 (keepW hS2.1 hw5)) (fun hS3 => ?_)
              clear hK
              refine wpAnyH_ready (rs := [0]) (by kernel_rfl) (by simp) ?_
              refine AllReadyH.cons rfl (fun K hK => ?_) AllReadyH.nil
              simp only [List.getElem_toArray, List.getElem_cons_zero]
              go_simp
              refine hK.out _ _ (keepC hS3 (by exact below_box _ _) (keepW hS3.1 (by exact below_box _ _))) (fun hS4 => ?_)
              clear hK
              refine wpAnyH_add ⟨w5.heap.size, 0, none⟩ (.int .u8 254) hS4 (by simp) (fun hS5 => ?_)
              refine wpAnyH_take (i := 1) (v := .string M) rfl (by kernel_rfl) (by kernel_rfl) (by kernel_rfl) (fun _ _ _ h => h) (Or.inl ⟨by rfl, fun wx hSx => ?_⟩) hS5 ?_
              · go_simp <;> (first | with_reducible rfl | omega)
              simp only [Act.put, List.getElem_toArray, List.getElem_cons_zero, List.getElem_cons_succ, List.setIfInBounds_toArray, List.set_cons_zero, List.set_cons_succ]
              refine wpAnyH_take (i := 3) (v := .string (M ++ I)) rfl (by kernel_rfl) (by kernel_rfl) (by kernel_rfl) (fun _ _ _ h => h) (Or.inl ⟨by rfl, fun wx hSx => ?_⟩) hS5 ?_
              · go_simp <;> (first | with_reducible rfl | omega)
              simp only [Act.put, List.getElem_toArray, List.getElem_cons_zero, List.getElem_cons_succ, List.setIfInBounds_toArray, List.set_cons_zero, List.set_cons_succ]
              refine wpAnyH_take (i := 7) (v := .string (M ++ I ++ T)) rfl (by kernel_rfl) (by kernel_rfl) (by kernel_rfl) (fun _ _ _ h => h) (Or.inl ⟨by rfl, fun wx hSx => ?_⟩) hS5 ?_
              · go_simp <;> (first | with_reducible rfl | omega)
              simp only [Act.put, List.getElem_toArray, List.getElem_cons_zero, List.getElem_cons_succ, List.setIfInBounds_toArray, List.set_cons_zero, List.set_cons_succ]
              refine wpAnyH_take (i := 8) (v := .string (M ++ I ++ T)) rfl (by kernel_rfl) (by kernel_rfl) (by kernel_rfl) (fun _ _ _ h => h) (Or.inl ⟨by rfl, fun wx hSx => ?_⟩) hS5 ?_
              · go_simp <;> (first | with_reducible rfl | omega)
              simp only [Act.put, List.getElem_toArray, List.getElem_cons_zero, List.getElem_cons_succ, List.setIfInBounds_toArray, List.set_cons_zero, List.set_cons_succ]
              refine wpAnyH_take (i := 9) (v := .int .i64 0) rfl (by kernel_rfl) (by kernel_rfl) (by kernel_rfl) (fun _ _ _ h => h) (Or.inl ⟨by rfl, fun wx hSx => ?_⟩) hS5 ?_
              · go_simp <;> (first | with_reducible rfl | omega)
              simp only [Act.put, List.getElem_toArray, List.getElem_cons_zero, List.getElem_cons_succ, List.setIfInBounds_toArray, List.set_cons_zero, List.set_cons_succ]
              refine wpAnyH_done (by kernel_rfl) ?_ _
              refine NoPanic.normal ?_
              rw [EW.out]
              go_wp2
              go_ret2
              exact HP.out _ (keepW hbW hS5.1.1)
end Go.Proofs.YtefknfbmphdafaaGreat
namespace Go.Proofs.YtefknfbmphdafaaGreat
open Go.RowKit CrcM FrM

theorem u8_lt (c : UInt8) : c.toNat < 256 := c.toNat_lt
theorem digit04_any (c : UInt8) (w : World) : Calls Tryz.prog 137 #[.int .u8 c.toNat] w fun e w' => e = .returned (.bool (isDig c)) ∧ w = w' := by
  have hc := u8_lt c
  rcases (show c.toNat < 48 ∨ (48 ≤ c.toNat ∧ c.toNat ≤ 57) ∨ (57 < c.toNat ∧ c.toNat < 97) ∨ (97 ≤ c.toNat ∧ c.toNat ≤ 102) ∨ 102 < c.toNat by omega) with h | ⟨h, h'⟩ | ⟨h, h'⟩ | ⟨h, h'⟩ | h
  all_goals
    have H := Lib.hid (show isDig c = (decide (48 ≤ (c.toNat : Int)) && decide ((c.toNat : Int) ≤ 57) || decide (97 ≤ (c.toNat : Int)) && decide ((c.toNat : Int) ≤ 102)) by
      unfold isDig
      rw [Bool.eq_iff_iff]
      simp only [Bool.or_eq_true, Bool.and_eq_true, decide_eq_true_eq]
      omega)
    go_enter Tryz.func137, Tryz.ntmps137
    go_wp2
    go_ret
    exact ⟨ret_bool (by rw [H.out, Bool.eq_iff_iff]; simp only [Bool.or_eq_true, Bool.and_eq_true, decide_eq_true_eq, Bool.false_eq_true, true_iff, false_iff]; omega), rfl⟩

def valI (c : UInt8) : Int := if isDig c = true then ((val c : Nat) : Int) else -1
theorem value_any (c : UInt8) (w : World) : Calls Tryz.prog 113 #[.int .u8 c.toNat] w fun e w' => e = .returned (.int .i64 (valI c)) ∧ w = w' := by
  have hc := u8_lt c
  rcases (show c.toNat < 48 ∨ (48 ≤ c.toNat ∧ c.toNat ≤ 57) ∨ (57 < c.toNat ∧ c.toNat < 97) ∨ (97 ≤ c.toNat ∧ c.toNat ≤ 102) ∨ 102 < c.toNat by omega) with h | ⟨h, h'⟩ | ⟨h, h'⟩ | ⟨h, h'⟩ | h
  · have H := Lib.hid (show valI c = -1 by unfold valI; rw [if_neg (by simp [isDig]; omega)])
    go_enter Tryz.func113, Tryz.ntmps113
    go_wp2
    go_ret
    exact ⟨ret_int (by rw [H.out]), rfl⟩
  · have H := Lib.hid (show valI c = (c.toNat : Int) - 48 by unfold valI val; rw [if_pos (by simp [isDig]; omega), if_pos (by omega)]; omega)
    go_enter Tryz.func113, Tryz.ntmps113
    go_wp2
    go_ret
    exact ⟨ret_int (by rw [H.out]), rfl⟩
  · have H := Lib.hid (show valI c = -1 by unfold valI; rw [if_neg (by simp [isDig]; omega)])
    go_enter Tryz.func113, Tryz.ntmps113
    go_wp2
    go_ret
    exact ⟨ret_int (by rw [H.out]), rfl⟩
  · have H := Lib.hid (show valI c = (c.toNat : Int) - 87 by unfold valI val; rw [if_pos (by simp [isDig]; omega), if_neg (by omega)]; omega)
    go_enter Tryz.func113, Tryz.ntmps113
    go_wp2
    go_ret
    exact ⟨ret_int (by rw [H.out]), rfl⟩
  · have H := Lib.hid (show valI c = -1 by unfold valI; rw [if_neg (by simp [isDig]; omega)])
    go_enter Tryz.func113, Tryz.ntmps113
    go_wp2
    go_ret
    exact ⟨ret_int (by rw [H.out]), rfl⟩

set_option maxHeartbeats 400000 in
theorem unhex_ref (s : ByteArray) (w : World) (hs : s.size ≤ 9223372036854775807) :
    Calls Tryz.prog 73 #[.string s] w fun e w' => e = .returned (.tuple #[.int .i64 (unR s.data.toList), .bool (unB s.data.toList)]) ∧ w = w' := by
  have hsz := size_list s
  by_cases hr : 1 ≤ s.size ∧ s.size ≤ 12
  · obtain ⟨h1, h12⟩ := hr
    have HSZ := Lib.hid hsz
    clear hsz
    go_enter Tryz.func73, Tryz.ntmps73
    go_wp2
    go_loop [4, 5] (fun x i => ∃ k n : Nat, k ≤ s.size ∧ n = unhex (s.data.toList.take k) ∧ allDig (s.data.toList.take k) = true ∧ i = .int .i64 k ∧ x = .int .i64 n) (fun _ i => s.size - (intOf i).toNat)
    case atStart => exact ⟨0, 0, Nat.zero_le _, rfl, rfl, rfl, rfl⟩
    case round =>
      obtain ⟨k, n, hk, hn, hd, rfl, rfl⟩ := hrel
      have hb := (unhex_big (s.data.toList.take k) 12 hd (by rw [List.length_take]; omega) (by omega)).2
      rw [← hn] at hb
      have HN := Lib.hid hn
      have HD := Lib.hid hd
      clear hn hd
      by_cases hlt : k < s.size
      · have VA := value_any s[k]
        by_cases hg : isDig s[k] = true
        · have hv := val_lt _ hg
          unfold valI at VA
          rw [if_pos hg] at VA
          replace VA := Lib.hid VA
          have HU := Lib.hid (show 16 * n + val s[k] = unhex (s.data.toList.take (k + 1)) by rw [bytes_take s k hlt, unhex_snoc, HN.out])
          have HA := Lib.hid (show allDig (s.data.toList.take (k + 1)) = true by rw [bytes_take s k hlt, allDig_snoc, HD.out, hg]; rfl)
          clear hg
          go_wp2_with (go_at_call 113; refine (VA.out _).mono ?_; rintro e w' ⟨rfl, rfl⟩)
          go_round
          case rel => exact ⟨k + 1, 16 * n + val s[k], by omega, HU.out, HA.out, by go_num, by go_num⟩
          case measure => simp [intOf]; omega
        · unfold valI at VA
          rw [if_neg hg] at VA
          replace VA := Lib.hid VA
          have HB := Lib.hid (show unB s.data.toList = false by
            unfold unB allDig
            rw [Bool.and_eq_false_iff]
            right
            rw [List.all_eq_false]
            exact ⟨s[k], by have := Array.getElem_mem_toList (xs := s.data) (i := k) hlt; exact this, by simpa using hg⟩)
          clear hg
          go_wp2_with (go_at_call 113; refine (VA.out _).mono ?_; rintro e w' ⟨rfl, rfl⟩)
          go_ret2
          exact ⟨by unfold unR; rw [HB.out]; rfl, rfl⟩
      · obtain rfl : k = s.size := by omega
        have HB := Lib.hid (show unB s.data.toList = true by
          have := HD.out
          rw [take_all] at this
          unfold unB
          rw [this, ← HSZ.out]
          simp; omega)
        have HU := Lib.hid (show n = unhex s.data.toList by rw [HN.out, take_all])
        go_wp2
        go_ret2
        exact ⟨by unfold unR; rw [HB.out, ← HU.out]; rfl, rfl⟩
  · have HB := Lib.hid (show unB s.data.toList = false by unfold unB; rw [← hsz]; simp; omega)
    clear hsz
    by_cases h1 : s.size < 1
    · go_enter Tryz.func73, Tryz.ntmps73
      go_wp2
      go_ret2
      exact ⟨by unfold unR; rw [HB.out]; rfl, rfl⟩
    · have h12 : 12 < s.size := by omega
      go_enter Tryz.func73, Tryz.ntmps73
      go_wp2
      go_ret2
      exact ⟨by unfold unR; rw [HB.out]; rfl, rfl⟩

def mayB (at_ long : Nat) (c : UInt8) : Bool := if at_ = 0 then isMark c else if at_ = 1 then isKind c else if at_ < 6 ∨ 6 + long ≤ at_ then isDig c else isPlain c
set_option maxHeartbeats 1000000 in
theorem may_any (c : UInt8) (k n : Nat) (hk : k ≤ 4000) (hn : n ≤ 2000) (w : World) : Calls Tryz.prog 121 #[.int .u8 c.toNat, .int .i64 k, .int .i64 n] w fun e w' => e = .returned (.bool (mayB k n c)) ∧ w = w' := by
  have hc := u8_lt c
  by_cases h0 : k = 0
  · subst h0
    have H := Lib.hid (show ((c.toNat : Int) == 254) = mayB 0 n c by
      show _ = isMark c
      unfold isMark
      by_cases h : c.toNat = 254
      · simp [h]
      · rw [decide_eq_false h, beq_eq_false_iff_ne]; omega)
    go_enter Tryz.func121, Tryz.ntmps121
    go_wp2
    go_ret
    exact ⟨ret_bool H.out, rfl⟩
  · by_cases h1 : k = 1
    · subst h1
      rcases (show c.toNat < 97 ∨ (97 ≤ c.toNat ∧ c.toNat ≤ 122) ∨ 122 < c.toNat by omega) with h | ⟨h, h'⟩ | h
      all_goals
        have H := Lib.hid (show mayB 1 n c = (decide (97 ≤ (c.toNat : Int)) && decide ((c.toNat : Int) ≤ 122)) by
          show isKind c = _
          unfold isKind
          rw [Bool.eq_iff_iff]
          simp only [Bool.and_eq_true, decide_eq_true_eq]
          omega)
        go_enter Tryz.func121, Tryz.ntmps121
        go_wp2
        go_ret
        exact ⟨ret_bool (by rw [H.out] <;> (first | rfl | omega | (simp <;> omega))), rfl⟩
    · have b0 : ((k : Int) == 0) = false := by rw [beq_eq_false_iff_ne]; omega
      have b1 : ((k : Int) == 1) = false := by rw [beq_eq_false_iff_ne]; omega
      by_cases h6 : k < 6
      · have H := Lib.hid (show isDig c = mayB k n c by unfold mayB; rw [if_neg h0, if_neg h1, if_pos (Or.inl h6)])
        clear h0 h1
        go_enter Tryz.func121, Tryz.ntmps121
        go_wp2_with (go_at_call 137; refine (digit04_any c _).mono ?_; rintro e w' ⟨rfl, rfl⟩)
        go_ret
        exact ⟨ret_bool H.out, rfl⟩
      · by_cases h7 : 6 + n ≤ k
        · have H := Lib.hid (show isDig c = mayB k n c by unfold mayB; rw [if_neg h0, if_neg h1, if_pos (Or.inr h7)])
          clear h0 h1
          go_enter Tryz.func121, Tryz.ntmps121
          go_wp2_with (go_at_call 137; refine (digit04_any c _).mono ?_; rintro e w' ⟨rfl, rfl⟩)
          go_ret
          exact ⟨ret_bool H.out, rfl⟩
        · have HM := Lib.hid (show mayB k n c = isPlain c by unfold mayB; rw [if_neg h0, if_neg h1, if_neg (by omega)])
          clear h0 h1
          rcases (show c.toNat < 32 ∨ (32 ≤ c.toNat ∧ c.toNat ≤ 126) ∨ 126 < c.toNat by omega) with h | ⟨h, h'⟩ | h
          all_goals
            have H := Lib.hid (show isPlain c = (decide (32 ≤ (c.toNat : Int)) && decide ((c.toNat : Int) ≤ 126)) by
              unfold isPlain
              rw [Bool.eq_iff_iff]
              simp only [Bool.and_eq_true, decide_eq_true_eq]
              omega)
            go_enter Tryz.func121, Tryz.ntmps121
            go_wp2
            go_ret
            exact ⟨ret_bool (by rw [HM.out, H.out] <;> (first | rfl | omega | (simp <;> omega))), rfl⟩
end Go.Proofs.YtefknfbmphdafaaGreat
