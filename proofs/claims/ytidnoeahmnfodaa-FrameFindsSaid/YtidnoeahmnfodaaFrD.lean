/- The walk of Next, where all may stand where it stands. -/
import Derived.Test.YtidnoeahmnfodaaFrC
namespace Go.Proofs.Ytidnoeahmnfodaa
open Go.RowKit CrcM FrM

theorem str_eq (a b : ByteArray) (h : a.data.toList = b.data.toList) : (a.toList == b.toList) = true := by rw [ByteArray.toList_eq, ByteArray.toList_eq, h]; simp
theorem str_ne (a b : ByteArray) (h : a.data.toList ≠ b.data.toList) : (a.toList == b.toList) = false := by rw [ByteArray.toList_eq, ByteArray.toList_eq, beq_eq_false_iff_ne]; exact h
theorem hexB_list (k n : Nat) : (hexB k n).data.toList = hex k n := by simp [hexB]

theorem nextPost_good (s : ByteArray) (w : World) (n Q R : Nat) (hQ : Q = 6 + n) (hR : R = 14 + n) (h : nxE s.data.toList = 0) (hn : n = len4 s.data.toList) (h1 : 1 < s.size) (w' : World) (hb : Below w.heap.size w w') :
    NextPost s w (.returned (.tuple #[.agg #[.int .u8 (s[1].toNat : Int), .string (s.extract 6 Q)], .int .i64 (R : Nat), .int .i64 0])) w' := by
  subst hQ hR
  have e1 : nxK s.data.toList = s[1] := by
    unfold nxK
    rw [if_pos h, List.getD_eq_getElem?_getD, List.getElem?_eq_getElem (by rw [← size_list]; exact h1)]
    rfl
  have e2 : nxBb s = s.extract 6 (6 + n) := by unfold nxBb; rw [if_pos h, hn]
  have e3 : nxN s.data.toList = 14 + n := by unfold nxN; rw [if_pos h, hn]
  refine ⟨?_, hb⟩
  unfold frV
  rw [e1, e2, e3, h]
  rfl

set_option maxRecDepth 100000 in
set_option maxHeartbeats 1000000 in
theorem next_good (s : ByteArray) (w : World) (hs : s.size ≤ 9223372036854775807) (g1 : sc head 0 6 s.data.toList = 0) (g2 : ¬ 2000 < len4 s.data.toList)
    (g3 : sc (body (len4 s.data.toList)) 6 (len4 s.data.toList + 8) (s.data.toList.drop 6) = 0) :
    Calls Try.prog 14 #[.string s] w (NextPost s w) := by
  have RH := read_head s
  rw [g1] at RH
  replace RH := Lib.hid RH
  obtain ⟨d1, d2, d3, d4⟩ := head_digs _ g1
  have h6 := len6 s d1
  have UN := unhex_any (s.extract 2 6)
  rw [extract_list, List.drop_take, show (6 : Nat) - 2 = 4 from rfl, d2, d3] at UN
  replace UN := Lib.hid UN
  have hxs : (s.extract 2 6).size ≤ 9223372036854775807 := by rw [extract_size]; omega
  have RB := read_body (s.extract 6 s.size)
  rw [extract_rest] at RB
  have hys : (s.extract 6 s.size).size ≤ 9223372036854775807 := by rw [extract_size]; omega
  have hlen := (sc_zero _ _ _ _ g3).1
  have hlen : 14 + len4 s.data.toList ≤ s.size := by rw [size_list]; rw [List.length_drop] at hlen; omega
  have G1 := Lib.hid g1
  have G2 := Lib.hid g2
  have G3 := Lib.hid g3
  obtain ⟨n, hn⟩ : ∃ n, n = len4 s.data.toList := ⟨_, rfl⟩
  replace RB := RB n
  have HN := Lib.hid hn
  rw [← hn] at UN g2 d4 g3 hlen
  rw [g3] at RB
  replace RB := Lib.hid RB
  have htx : (s.extract 1 (6 + n)).size ≤ 9223372036854775807 := by rw [extract_size]; omega
  clear d1 d2 d3 g1 g3 hn
  have i0 : (0 : Int) ≤ (n : Int) := by omega
  have i1 : (14 : Int) + n ≤ (s.size : Int) := by omega
  have i2 : (n : Int) ≤ 2000 := by omega
  go_enter Try.func14, Try.ntmps14
  go_wp2_with fail
  refine (RH.out _ _ hs (by simp) (by simp) (by simp) (by simp) (by simp) (by simp) (by simp)).mono ?_
  rintro e w1 ⟨r, rfl, hb1⟩
  have hr := ((HasRes.start 28 w).alloc _).step hb1
  clear hb1
  go_wp2_with fail
  refine (UN.out _ hxs).mono ?_
  rintro e w2 ⟨rfl, rfl⟩
  go_wp2_with fail
  refine (RB.out _ (by omega) _ hys (by simp) (by simp) (by simp) (by simp) (by simp)).mono ?_
  rintro e w2 ⟨r2, rfl, hb2⟩
  have hr2 := (hr.alloc _).step hb2
  clear hb2 hr
  go_wp2_with fail
  obtain ⟨Q, hQ⟩ : ∃ Q, Q = 6 + n := ⟨_, rfl⟩
  obtain ⟨R, hR⟩ : ∃ R, R = 14 + n := ⟨_, rfl⟩
  rw [show (6 : Int) + n = (Q : Int) by omega]
  rw [← hQ] at htx
  have v1 : IntKind.i64.wrap ((Q : Int) + 8) = R := by rw [IntWalk.i64_in _ (by omega)]; omega
  have v2 : (0 : Int) ≤ (Q : Int) := by omega
  have v3 : (1 : Int) ≤ (Q : Int) := by omega
  have v4 : (Q : Int) ≤ (R : Int) := by omega
  have v5 : (R : Int) ≤ (s.size : Int) := by omega
  have v6 : (Q : Int) ≤ (s.size : Int) := by omega
  have v7 : (0 : Int) ≤ (R : Int) := by omega
  have HQ := Lib.hid hQ
  have HR := Lib.hid hR
  clear hQ hR i0 i1 i2
  obtain ⟨T, hT⟩ : ∃ T, T = hexB 8 (smm (s.extract 1 Q).data.toList) := ⟨_, rfl⟩
  have TX : ∀ (b : Nat) (W : World), W.cell? ⟨b, 0, none⟩ = some (.string (s.extract 1 Q)) → Calls Try.prog 28 #[.slice (some ⟨b, 0, none⟩) 1 1] W fun e w' => e = .returned (.string T) ∧ Below W.heap.size W w' := by
    intro b W h; rw [hT]; exact text_one b _ W htx h
  replace TX := Lib.hid TX
  have HT := Lib.hid hT
  clear hT
  go_region_held3 (fun w' => Below w2.heap.size w2 w')
    (first | exact below_draw | exact Below.alloc (by assumption) (Below.size (by assumption)) _ | exact Below.trans (by assumption) (hb3.mono (Below.size (by assumption))) | exact (by assumption))
    (first | (go_at_call 28; refine (TX.out _ _ (by simp)).mono ?_; rintro e w3 ⟨rfl, hb3⟩) | fail)
  have hr3 := hr2.step (by assumption : Below w2.heap.size w2 w3)
  clear hb3
  obtain ⟨c0, c1, f0, f1⟩ := hr3.cells
  generalize hbq : (!((s.extract Q R).toList == T.toList)) = Bq
  have hdec : if Bq = false then (s.extract Q R).data.toList = T.data.toList else (s.extract Q R).data.toList ≠ T.data.toList := by
    by_cases heq : (s.extract Q R).data.toList = T.data.toList
    · rw [str_eq _ _ heq] at hbq; rw [← hbq]; exact heq
    · rw [str_ne _ _ heq] at hbq; rw [← hbq]; exact heq
  clear hbq
  cases Bq with
  | false =>
    have heq : (s.extract Q R).data.toList = T.data.toList := hdec
    clear hdec
    have hx : (s.data.toList.drop (6 + len4 s.data.toList)).take 8 = hex 8 (smm ((s.data.toList.take (6 + len4 s.data.toList)).drop 1)) := by
      rw [← HN.out, ← HQ.out, ← extract_list, ← hexB_list, ← HT.out, ← heq, extract_list, List.drop_take]
      congr 1
      have := HQ.out; have := HR.out; omega
    have HE := Lib.hid (nxE_ok _ G1.out G2.out G3.out hx)
    clear hx heq
    have q1 : (1 : Int) < (s.size : Int) := by omega
    have q2 : (6 : Int) ≤ (Q : Int) := by have := HQ.out; omega
    have h1 : 1 < s.size := by omega
    go_wp2
    have HG := Lib.hid (nextPost_good s w n Q R HQ.out HR.out HE.out HN.out h1)
    go_region
    go_wp2
    obtain ⟨p1, p2⟩ := hr3.put (.int .u8 (s[1].toNat : Int)) (.string (s.extract 6 Q))
    exact bodyPost_ret (results_row3 (p := 2) (a := 3) (b := 4) rfl _ _ _ _ _ _ _ rfl p1 Try.underlying28 rfl info_frame) rfl (HG.out _ p2.drew)
  | true =>
    have heq : (s.extract Q R).data.toList ≠ T.data.toList := hdec
    clear hdec
    have hx : (s.data.toList.drop (6 + len4 s.data.toList)).take 8 ≠ hex 8 (smm ((s.data.toList.take (6 + len4 s.data.toList)).drop 1)) := by
      intro hx
      apply heq
      rw [← HN.out, ← HQ.out, ← extract_list, ← hexB_list, ← HT.out] at hx
      rw [← hx, extract_list, List.drop_take]
      congr 1
      have := HQ.out; have := HR.out; omega
    have HP := Lib.hid (nextPost_bad s 45 w (h := nxE_sum _ G1.out G2.out G3.out hx) (hc := by omega))
    clear hx heq
    go_wp2
    obtain ⟨p1, p2⟩ := hr3.put (.int .u8 0) (.string ⟨#[]⟩)
    exact bodyPost_ret (results_row3 (p := 2) (a := 3) (b := 4) rfl _ _ _ _ _ _ _ rfl p1 Try.underlying28 rfl info_frame) rfl (HP.out _ p2)

theorem next_any (s : ByteArray) (w : World) (hs : s.size ≤ 9223372036854775807) : Calls Try.prog 14 #[.string s] w (NextPost s w) := by
  by_cases g1 : sc head 0 6 s.data.toList = 0
  · by_cases g2 : 2000 < len4 s.data.toList
    · exact next_bad2 s w hs g1 g2
    · by_cases g3 : sc (body (len4 s.data.toList)) 6 (len4 s.data.toList + 8) (s.data.toList.drop 6) = 0
      · exact next_good s w hs g1 g2 g3
      · exact next_bad3 s w hs g1 g2 g3
  · exact next_bad1 s w hs g1
end Go.Proofs.Ytidnoeahmnfodaa
