/- The walk of the statement CrcParts. -/
import Derived.Test.YteeigfcecmjfpaaCrcG
import Derived.Laws.AppendOwnNone
namespace Go.Proofs.Yteeigfcecmjfpaa
open Go.RowKit CrcM

theorem strRow_below {w W : World} {a : Option Addr} {l : List ByteArray} (h : StrRow w a l) (hb : Below w.heap.size w W) : StrRow W a l := by
  intro j hj
  obtain ⟨b, off, e, hc⟩ := h j hj
  exact ⟨b, off, e, (hb.cell (block_lt_of_cell hc)).trans hc⟩
def cat (l : List ByteArray) : ByteArray := l.foldl (· ++ ·) ByteArray.empty
theorem cat_snoc (l : List ByteArray) (s : ByteArray) : cat (l ++ [s]) = cat l ++ s := by unfold cat; rw [List.foldl_append]; rfl
theorem cat_take (l : List ByteArray) (k : Nat) (h : k < l.length) : cat (l.take (k + 1)) = cat (l.take k) ++ l[k] := by
  rw [List.take_succ_eq_append_getElem h, cat_snoc]
theorem cat_data (l : List ByteArray) : (cat l).data.toList = flat l := by
  have gen : ∀ (l : List ByteArray) (a : ByteArray), (l.foldl (· ++ ·) a).data.toList = a.data.toList ++ flat l := by
    intro l
    induction l with
    | nil => intro a; simp [flat]
    | cons s r ih => intro a; rw [List.foldl_cons, ih, ByteArray.data_append]; simp [flat]
  unfold cat
  rw [gen]
  simp

theorem und_strs : Try.prog.underlying 36 = some (.slice 9) := by kernel_rfl
theorem info_str : (Try.prog.info? 9).map (fun i => (i.zero, i.size, i.bytes)) = some (some (.string ⟨#[]⟩), 1, 16) := by kernel_rfl
/-- A law at an operation whose guard says yes. -/
theorem wpList_yes {P : Program} {ops : Array Oper} {Q : Exit → Act → World → Prop} {a : Act} {w : World} {rest : List Oper} {o : Oper} (hw : Region.wanted o (yielded ops a.tmps) = true)
    (h : ∀ K : Act → World → Prop, (∀ a w, wpList P ops Q rest a w → K a w) → o.wp P a w K Q) : wpList P ops Q (o :: rest) a w :=
  wpList_step fun K hK => by rw [if_pos hw]; exact h K hK

theorem ownBlock_ge {w : World} {base : Nat} {e : TypeId} {size n : Nat} {v : Value} {xs : List Value} (h : w.ownsRow base e size v n xs) : ∀ k, v.ownBlock = some k → base ≤ k := by
  intro k hk
  rcases h.2 with ⟨rfl, _⟩ | ⟨g, c, cur, rfl, hb, _⟩
  · cases hk
  · simp [Value.ownBlock] at hk; omega
theorem sum_grown (l : List ByteArray) (k base : Nat) (hk : k = l.length) (hl : k ≤ 9223372036854775806) (hs : ∀ s, s ∈ l → s.size ≤ 9223372036854775807) (v : Value) (W : World)
    (ho : W.ownsRow base 9 1 v (0 + k + 1) ([] ++ l.map Value.string ++ [.string ⟨#[]⟩])) :
    Calls Try.prog 15 #[v] W fun e w' => e = .returned (.int .u32 (smm (flat l))) ∧ Below W.heap.size W w' := by
  obtain ⟨E, hE⟩ : ∃ E : ByteArray, E = ⟨#[]⟩ := ⟨_, rfl⟩
  rw [← hE] at ho
  have e : 0 + k + 1 = (l ++ [E]).length := by simp; exact hk
  have ef : flat l = flat (l ++ [E]) := by rw [hE]; simp [flat]
  have em : [] ++ l.map Value.string ++ [.string E] = (l ++ [E]).map Value.string := by simp
  have hE2 : E.size ≤ 9223372036854775807 := by rw [hE]; decide
  clear hE
  rw [em] at ho
  rcases ho.2 with ⟨_, h⟩ | ⟨g, c, cur, hv, _⟩
  · omega
  · rw [hv] at ho ⊢
    rw [e] at ho ⊢
    rw [ef]
    have hm : ∀ s, s ∈ l ++ [E] → s.size ≤ 9223372036854775807 := by
      intro s h
      rcases List.mem_append.1 h with h | h
      · exact hs s h
      · simp at h; subst h; exact hE2
    clear em hs hv
    generalize l ++ [E] = m at *
    refine sum_any _ c m W (by omega) ?_ ?_
    · exact hm
    · intro j hj
      refine ⟨g, 0, rfl, ?_⟩
      have := ho.cellAt j (by omega)
      rw [Nat.zero_add, this, List.getElem?_map, List.getElem?_eq_getElem hj]
      rfl

set_option maxRecDepth 100000 in
set_option maxHeartbeats 1000000 in
theorem law_parts_some (ad : Addr) (cap : Nat) (l : List ByteArray) (w : World) (hl : l.length ≤ 9223372036854775807) (hs : ∀ s, s ∈ l → s.size ≤ 9223372036854775807) (hc : StrRow w (some ad) l) :
    Calls Try.prog 6 #[.slice (some ad) l.length cap] w fun e w' => e = .returned (.bool true) ∧ Below w.heap.size w w' := by
  obtain ⟨n, hn⟩ : ∃ n, n = l.length := ⟨_, rfl⟩
  rw [← hn] at hl
  rw [← hn]
  have HN := Lib.hid hn
  have HC := Lib.hid hc
  have HS := Lib.hid hs
  clear hc hs hn
  go_enter Try.func6, Try.ntmps6
  go_wp2
  go_loop [3, 8] (fun x i => ∃ k : Nat, k ≤ n ∧ i = .int .i64 k ∧ x = .string (cat (l.take k)) ∧ (cat (l.take k)).size ≤ 200 * k ∧ (k ≠ 0 → n ≤ 50)) (fun _ i => n - (intOf i).toNat)
  case atStart => exact ⟨0, Nat.zero_le _, rfl, rfl, Nat.zero_le _, fun h => absurd rfl h⟩
  case round =>
    obtain ⟨k, hk, rfl, rfl, hsz, h50⟩ := hrel
    by_cases hlt : k < n
    · obtain ⟨b, off, he, hcell⟩ := HC.out k (by rw [← HN.out]; exact hlt)
      obtain rfl : ad = ⟨b, off, none⟩ := by simpa using he
      clear he
      obtain ⟨s, hs⟩ : ∃ s, s = l[k]'(by rw [← HN.out]; exact hlt) := ⟨_, rfl⟩
      rw [← hs] at hcell
      have hss : s.size ≤ 9223372036854775807 := HS.out s (by rw [hs]; exact List.getElem_mem _)
      have HE := Lib.hid (show cat (l.take (k + 1)) = cat (l.take k) ++ s by rw [hs]; exact cat_take l k (by rw [← HN.out]; exact hlt))
      clear hs
      by_cases hbad : n ≤ 50 ∧ s.size ≤ 200
      · obtain ⟨h1, h2⟩ := hbad
        clear h50
        generalize cat (l.take k) = B at *
        have HZ := Lib.hid (show (B ++ s).size ≤ 200 * (k + 1) by rw [ByteArray.size_append]; omega)
        go_wp2
        go_round
        case rel => exact ⟨k + 1, by omega, by go_num, by rw [HE.out], by rw [HE.out]; exact HZ.out, fun _ => h1⟩
        case measure => simp [intOf]; omega
      · by_cases h1 : 50 < n
        · go_wp2_with (go_at_call 10; refine (alive_any _).mono ?_; rintro e w1 ⟨rfl, hb1⟩)
          go_ret
          exact ⟨rfl, by assumption⟩
        · have h2 : 200 < s.size := by omega
          go_wp2_with (go_at_call 10; refine (alive_any _).mono ?_; rintro e w1 ⟨rfl, hb1⟩)
          go_ret
          exact ⟨rfl, by assumption⟩
    · obtain rfl : k = n := by omega
      have h51 : k ≤ 50 := by by_cases h : k = 0 <;> omega
      obtain ⟨B, hB⟩ : ∃ B, B = cat (l.take k) := ⟨_, rfl⟩
      have hBl : B.size ≤ 9223372036854775807 := by rw [hB]; omega
      have HBD := Lib.hid (show B.data.toList = flat l by rw [hB, cat_data, HN.out, List.take_length])
      rw [← hB]
      rw [← hB] at hsz
      clear hB
      have SL : ∀ W, Below w.heap.size w W → Calls Try.prog 15 #[.slice (some ad) k cap] W fun e w' => e = .returned (.int .u32 (smm (flat l))) ∧ Below W.heap.size W w' := by
        intro W hW; rw [HN.out]; exact sum_any (some ad) cap l W (by rw [← HN.out]; exact hl) HS.out (strRow_below HC.out hW)
      have TL : ∀ W, Below w.heap.size w W → Calls Try.prog 16 #[.slice (some ad) k cap] W fun e w' => e = .returned (.string (hexB 8 (smm (flat l)))) ∧ Below W.heap.size W w' := by
        intro W hW; rw [HN.out]; exact text_any (some ad) cap l W (by rw [← HN.out]; exact hl) HS.out (strRow_below HC.out hW)
      have SL := Lib.hid SL
      have TL := Lib.hid TL
      have S1 : ∀ (b : Nat) (W : World), W.cell? ⟨b, 0, none⟩ = some (.string B) → Calls Try.prog 15 #[.slice (some ⟨b, 0, none⟩) 1 1] W fun e w' => e = .returned (.int .u32 (smm (flat l))) ∧ Below W.heap.size W w' := by
        intro b W h; rw [← HBD.out]; exact sum_one b B W hBl h
      have T1 : ∀ (b : Nat) (W : World), W.cell? ⟨b, 0, none⟩ = some (.string B) → Calls Try.prog 16 #[.slice (some ⟨b, 0, none⟩) 1 1] W fun e w' => e = .returned (.string (hexB 8 (smm (flat l)))) ∧ Below W.heap.size W w' := by
        intro b W h; rw [← HBD.out]; exact text_one b B W hBl h
      have S1 := Lib.hid S1
      have T1 := Lib.hid T1
      go_wp2_with fail
      refine (alive_any _).mono ?_
      rintro e w1 ⟨rfl, hb1⟩
      go_wp2_with fail
      refine (SL.out _ hb1).mono ?_
      rintro e w2 ⟨rfl, hb2⟩
      have c2 := hb1.trans (hb2.mono hb1.size)
      clear hb2
      go_wp2_with fail
      refine (S1.out _ _ (by simp)).mono ?_
      rintro e w3 ⟨rfl, hb3⟩
      have c3 := (c2.alloc c2.size (.cells #[.string B] 9)).trans (hb3.mono (c2.alloc c2.size (.cells #[.string B] 9)).size)
      clear hb3 c2
      go_wp2_with fail
      refine (TL.out _ c3).mono ?_
      rintro e w4 ⟨rfl, hb4⟩
      have c4 := c3.trans (hb4.mono c3.size)
      clear hb4 c3
      go_wp2_with fail
      refine (T1.out _ _ (by simp)).mono ?_
      rintro e w5 ⟨rfl, hb5⟩
      have c5 := (c4.alloc c4.size (.cells #[.string B] 9)).trans (hb5.mono (c4.alloc c4.size (.cells #[.string B] 9)).size)
      clear hb5 c4
      obtain ⟨i0, hi, hz0, hz1, hz2⟩ := info_parts info_str
      have L1 : (l.map Value.string).length = k * 1 := by rw [List.length_map, Nat.mul_one]; exact HN.out.symm
      have L1 := Lib.hid L1
      have NW : ∀ W, Below w.heap.size w W → ∀ j u, (l.map Value.string)[j]? = some u → W.cell? (ad.add j) = some u := by
        intro W hW j u hj
        have hjl : j < l.length := by have := (List.getElem?_eq_some_iff.1 hj).1; simpa using this
        obtain ⟨b, off, e, hc⟩ := strRow_below HC.out hW j hjl
        simp at e
        subst e
        have hadd : (⟨b, off, none⟩ : Addr).add j = ⟨b, off + j, none⟩ := by unfold Addr.add; split <;> simp_all
        rw [hadd, hc]
        rw [List.getElem?_map, List.getElem?_eq_getElem hjl] at hj
        exact hj
      have NW := Lib.hid NW
      have O5 := Lib.hid (World.ownsRow_lit (base := w.heap.size) (e := 9) (size := 1) w5 #[] 0 c5.size (Nat.zero_le _) rfl)
      go_wp2_with (first | (at_builtin; refine wpList_yes rfl fun K hK => wp_append_own _ (.tmp 43) (.tmp 44) 36 rfl w.heap.size 9 i0 (.string ⟨#[]⟩) 1 16 und_strs hi hz0 hz1 hz2 rfl (by omega) _ 0 [] rfl O5.out ad k cap (l.map Value.string) rfl L1.out (NW.out _ (c5.alloc c5.size _)) (by intro u hu; simp at hu; obtain ⟨_, _, rfl⟩ := hu; rfl) (by unfold maxLen; omega) (by omega) (by have := c5.size; simp; omega) (fun v' w6 ho6 hg6 _ => hK _ _ ?_)) | (at_builtin; refine wpList_yes rfl fun K hK => wp_append_own _ (.tmp 45) (.tmp 46) 36 rfl w.heap.size 9 i0 (.string ⟨#[]⟩) 1 16 und_strs hi hz0 hz1 hz2 rfl (by omega) v' (0 + k) ([] ++ l.map Value.string) rfl (ho6.alloc _) ⟨w6.heap.size, 0, none⟩ 1 1 [.string ⟨#[]⟩] rfl rfl (cell_one_new _ _ _) (by intro u hu; simp at hu; subst hu; rfl) (by unfold maxLen; omega) (by omega) (by have := hg6.size; have := c5.size; simp at *; omega) (fun v2 w7 ho7 hg7 _ => hK _ _ ?_)) | fail)
      have c6 := (c5.alloc c5.size (.cells #[] 9)).grown hg6 (by have := c5.size; simp; omega) (ownBlock_ge O5.out)
      have c7 := (c6.alloc c6.size (.cells #[.string ⟨#[]⟩] 9)).grown hg7 (by have := c6.size; simp; omega) (ownBlock_ge ho6)
      refine (sum_grown l k _ HN.out (by omega) HS.out v2 _ ho7).mono ?_
      rintro e w8 ⟨rfl, hb8⟩
      have c8 := c7.trans (hb8.mono c7.size)
      clear hb8 c7 hg7 ho7 c6 hg6 ho6 c5
      go_wp2_with fail
      refine (S1.out _ _ (by simp)).mono ?_
      rintro e w9 ⟨rfl, hb9⟩
      have c9 := (c8.alloc c8.size (.cells #[.string B] 9)).trans (hb9.mono (c8.alloc c8.size (.cells #[.string B] 9)).size)
      go_wp2
      go_ret
      exact ⟨rfl, c9⟩

set_option maxRecDepth 100000 in
set_option maxHeartbeats 1000000 in
theorem law_parts_none (w : World) :
    Calls Try.prog 6 #[.slice none 0 0] w fun e w' => e = .returned (.bool true) ∧ Below w.heap.size w w' := by
  obtain ⟨E, hE⟩ : ∃ E : ByteArray, E = ⟨#[]⟩ := ⟨_, rfl⟩
  have hEs : E.size ≤ 9223372036854775807 := by rw [hE]; decide
  have SL : ∀ W, Calls Try.prog 15 #[.slice none 0 0] W fun e w' => e = .returned (.int .u32 (smm [])) ∧ Below W.heap.size W w' := fun W => sum_none none 0 W
  have TL : ∀ W, Calls Try.prog 16 #[.slice none 0 0] W fun e w' => e = .returned (.string (hexB 8 (smm []))) ∧ Below W.heap.size W w' := fun W => text_any none 0 [] W (by simp) (by simp) (fun j hj => by simp at hj)
  have S1 : ∀ (b : Nat) (W : World), W.cell? ⟨b, 0, none⟩ = some (.string ⟨#[]⟩) → Calls Try.prog 15 #[.slice (some ⟨b, 0, none⟩) 1 1] W fun e w' => e = .returned (.int .u32 (smm [])) ∧ Below W.heap.size W w' := by
    intro b W h; rw [← hE] at h; have := sum_one b E W hEs h; rw [hE] at this; exact this
  have T1 : ∀ (b : Nat) (W : World), W.cell? ⟨b, 0, none⟩ = some (.string ⟨#[]⟩) → Calls Try.prog 16 #[.slice (some ⟨b, 0, none⟩) 1 1] W fun e w' => e = .returned (.string (hexB 8 (smm []))) ∧ Below W.heap.size W w' := by
    intro b W h; rw [← hE] at h; have := text_one b E W hEs h; rw [hE] at this; exact this
  have SL := Lib.hid SL
  have TL := Lib.hid TL
  have S1 := Lib.hid S1
  have T1 := Lib.hid T1
  clear hE hEs
  obtain ⟨i0, hi, hz0, hz1, hz2⟩ := info_parts info_str
  go_enter Try.func6, Try.ntmps6
  go_wp2
  refine wp_loop_rounds 1 ?_
  rw [rounds_succ]
  go_wp2_with fail
  refine (alive_any _).mono ?_
  rintro e w1 ⟨rfl, hb1⟩
  go_wp2_with fail
  refine (SL.out _).mono ?_
  rintro e w2 ⟨rfl, hb2⟩
  have c2 := hb1.trans (hb2.mono hb1.size)
  clear hb2
  go_wp2_with fail
  refine (S1.out _ _ (by simp)).mono ?_
  rintro e w3 ⟨rfl, hb3⟩
  have c3 := (c2.alloc c2.size (.cells #[.string ⟨#[]⟩] 9)).trans (hb3.mono (c2.alloc c2.size (.cells #[.string ⟨#[]⟩] 9)).size)
  clear hb3 c2
  go_wp2_with fail
  refine (TL.out _).mono ?_
  rintro e w4 ⟨rfl, hb4⟩
  have c4 := c3.trans (hb4.mono c3.size)
  clear hb4 c3
  go_wp2_with fail
  refine (T1.out _ _ (by simp)).mono ?_
  rintro e w5 ⟨rfl, hb5⟩
  have c5 := (c4.alloc c4.size (.cells #[.string ⟨#[]⟩] 9)).trans (hb5.mono (c4.alloc c4.size (.cells #[.string ⟨#[]⟩] 9)).size)
  clear hb5 c4
  have O5 := Lib.hid (World.ownsRow_lit (base := w.heap.size) (e := 9) (size := 1) w5 #[] 0 c5.size (Nat.zero_le _) rfl)
  go_wp2_with (first | (at_builtin; refine wpList_yes rfl fun K hK => wp_append_own _ (.tmp 45) (.tmp 46) 36 rfl w.heap.size 9 i0 (.string ⟨#[]⟩) 1 16 und_strs hi hz0 hz1 hz2 rfl (by omega) (.slice (some ⟨w5.heap.size, 0, none⟩) 0 0) 0 [] rfl (O5.out.alloc _) ⟨w5.heap.size + 1, 0, none⟩ 1 1 [.string ⟨#[]⟩] rfl rfl (by have := cell_one_new (w5.alloc (.cells #[] 9)) (.string ⟨#[]⟩) 9; simpa using this) (by intro u hu; simp at hu; subst hu; rfl) (by unfold maxLen; omega) (by omega) (by have := c5.size; simp; omega) (fun v2 w7 ho7 hg7 _ => hK _ _ ?_)) | fail)
  have c7 := ((c5.alloc c5.size (.cells #[] 9)).alloc (by have := c5.size; simp; omega) (.cells #[.string ⟨#[]⟩] 9)).grown hg7 (by have := c5.size; simp; omega) (ownBlock_ge O5.out)
  refine (sum_grown [] 0 _ rfl (by omega) (by simp) v2 _ ho7).mono ?_
  rintro e w8 ⟨rfl, hb8⟩
  have c8 := c7.trans (hb8.mono c7.size)
  clear hb8 c7 hg7 ho7
  go_wp2_with fail
  refine (S1.out _ _ (by simp)).mono ?_
  rintro e w9 ⟨rfl, hb9⟩
  have c9 := (c8.alloc c8.size (.cells #[.string ⟨#[]⟩] 9)).trans (hb9.mono (c8.alloc c8.size (.cells #[.string ⟨#[]⟩] 9)).size)
  go_wp2
  go_ret
  exact ⟨rfl, c9⟩

theorem law_parts (a : Option Addr) (cap : Nat) (l : List ByteArray) (w : World) (hl : l.length ≤ 9223372036854775807) (hs : ∀ s, s ∈ l → s.size ≤ 9223372036854775807) (hc : StrRow w a l) (hnil : a = none → cap = 0) :
    Calls Try.prog 6 #[.slice a l.length cap] w fun e w' => e = .returned (.bool true) ∧ Below w.heap.size w w' := by
  match a with
  | some ad => exact law_parts_some ad cap l w hl hs hc
  | none =>
    obtain rfl : cap = 0 := hnil rfl
    match l, hc with
    | [], _ => exact law_parts_none w
    | _ :: _, h => obtain ⟨_, _, e, _⟩ := h 0 (by simp); cases e
end Go.Proofs.Yteeigfcecmjfpaa
