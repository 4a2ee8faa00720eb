/- The reading of a slice of frames; the walks of Whole and of FrameApart's function. -/
import Derived.Test.YtidnoeahmnfodaaFrT
import Derived.Deep.SlicePairs
namespace Go.Proofs.Ytidnoeahmnfodaa
open Go.ChangeShapes Go.WideShapes Go.ChangeAt Go.RowKit CrcM FrM

theorem list_of {α : Type} [Inhabited α] (n : Nat) (P : Nat → α → Prop) (h : ∀ i, i < n → ∃ x, P i x) : ∃ l : List α, l.length = n ∧ ∀ i (hi : i < l.length), P i l[i] := by
  classical
  refine ⟨(List.range n).map fun i => if h' : i < n then Classical.choose (h i h') else default, by simp, fun i hi => ?_⟩
  have hn : i < n := by simpa using hi
  simp only [List.getElem_map, List.getElem_range, hn, dif_pos]
  exact Classical.choose_spec (h i hn)
theorem add_plain (b off n : Nat) : (⟨b, off, none⟩ : Addr).add n = ⟨b, off + n, none⟩ := by unfold Addr.add; split <;> simp_all
def ReadFrames (w : World) (v : Value) : Prop := ∃ l : List Fr, FrRow w v l ∧ l.length ≤ 9223372036854775807 ∧ (∀ f ∈ l, f.2.size ≤ 9223372036854775807) ∧ ∀ a n cap, v = .slice a n cap → n ≤ cap
theorem read_frames {H : Type} {enc : TypeId × Value → H} {W : World} {base : Nat} {v : Value} {d : DataW H} {ps : List MemPlace} (hok : Value.okWide Try.prog W .any base 39 v)
    (h : DataW.Trod enc Try.prog W 0 (fun _ => true) true 39 v d ps) : ReadFrames W v := by
  obtain ⟨a0, len, cap, rfl⟩ := okWide_slice Try.underlying39 hok
  obtain ⟨fuel, hf⟩ := h
  rcases Deep.open_slice_pairs Try.underlying39 Try.underlying23 cells_frame04 rfl rfl (by kernel_rfl) (by kernel_rfl) hf with ⟨hcs, hx⟩ | ⟨a, len', cap', m, n, V0, V1, D0, D1, P0, P1, hcs, _, hl, hm, hmm, _, hel⟩
  · simp [Value.cells] at hcs
    obtain ⟨rfl, rfl, rfl⟩ := hcs
    exact ⟨[], Or.inl ⟨none, 0, rfl, rfl⟩, by simp, by simp, fun a n cap h => by cases h; exact Nat.le_refl _⟩
  · simp [Value.cells] at hcs
    obtain ⟨rfl, rfl, rfl⟩ := hcs
    simp only [if_true] at hmm
    unfold maxLen at hm
    have each : ∀ i, i < len → ∃ f : Fr, W.cell? (a.add (i * 2)) = some (.int .u8 (f.1.toNat : Int)) ∧ W.cell? (a.add (i * 2 + 1)) = some (.string f.2) ∧ f.2.size ≤ 9223372036854775807 := by
      intro i hi
      obtain ⟨c0, c1, t0, t1⟩ := hel i (by omega)
      obtain ⟨x, hx0, _, hw⟩ := DataW.trod_int Try.underlying5 t0
      obtain ⟨s, hs, _, hss⟩ := DataW.trod_string Try.underlying9 t1
      simp at hx0 hs
      obtain ⟨k, rfl⟩ := u8_of hw
      exact ⟨(k, s), by rw [c0, hx0], by rw [c1, hs], hss⟩
    obtain ⟨l, hll, hP⟩ := list_of len _ each
    refine ⟨l, ?_, by omega, fun f hf => ?_, fun a n cap h => by cases h; exact hl⟩
    · by_cases h0 : len = 0
      · left
        subst h0
        exact ⟨some a, cap, rfl, List.length_eq_zero_iff.1 hll⟩
      · right
        obtain ⟨b, off, spot⟩ := a
        have hc0 := (hP 0 (by omega)).1
        have hspot : spot = none := by simpa [Addr.add] using World.cell?_spot hc0
        subst hspot
        refine ⟨b, off, cap, by rw [hll], fun j hj => ?_, ?_⟩
        · obtain ⟨e1, e2, _⟩ := hP j hj
          rw [add_plain] at e1 e2
          exact ⟨e1, e2⟩
        · rw [add_plain] at hc0
          exact block_lt_of_cell hc0
    · obtain ⟨i, hi, rfl⟩ := List.mem_iff_getElem.1 hf
      exact (hP i hi).2.2
structure WholeOk (l : List Fr) : Prop where
  ok : ∀ f ∈ l, okF f
  few : l.length ≤ 20
  small : ∀ f ∈ l, (wh1 f).length ≤ 100
def endsV (l : List Fr) (k : Nat) : List Value := (List.range k).map fun j => .int .i64 (En l (j + 1) : Nat)
theorem endsV_len (l : List Fr) (k : Nat) : (endsV l k).length = k := by simp [endsV]
theorem endsV_snoc (l : List Fr) (k : Nat) : endsV l (k + 1) = endsV l k ++ [.int .i64 (En l (k + 1) : Nat)] := by simp [endsV, List.range_succ]
def WholePost (l : List Fr) (w : World) (e : Ending) (w' : World) : Prop :=
  (WholeOk l ∧ ∃ v s, e = .returned (.tuple #[.string s, v, .bool true]) ∧ s.data.toList = catL l ∧ w'.ownsRow w.heap.size 3 1 v l.length (endsV l l.length) ∧ Below w.heap.size w w') ∨
  (e = .returned (.tuple #[.string ⟨#[]⟩, .slice none 0 0, .bool false]) ∧ Below w.heap.size w w')
structure WholeTo (l : List Fr) (k : Nat) (s : ByteArray) : Prop where
  le : k ≤ l.length
  ok : ∀ f ∈ l.take k, okF f
  few : 0 < k → l.length ≤ 20
  small : ∀ f ∈ l.take k, (wh1 f).length ≤ 100
  text : s.data.toList = catL (l.take k)
  size : s.size ≤ 100 * k
theorem WholeTo.zero (l : List Fr) : WholeTo l 0 ⟨#[]⟩ := ⟨Nat.zero_le _, by simp, fun h => absurd h (by omega), by simp, rfl, Nat.le_refl _⟩
theorem WholeTo.next {l : List Fr} {k : Nat} {s : ByteArray} (h : WholeTo l k s) (hk : k < l.length) (h1 : pkE l[k].1 l[k].2.data.toList = 0) (h2 : l.length ≤ 20) (h3 : (pkSb l[k].1 l[k].2).size ≤ 100) :
    WholeTo l (k + 1) (s ++ pkSb l[k].1 l[k].2) ∧ (s ++ pkSb l[k].1 l[k].2).size = En l (k + 1) := by
  obtain ⟨a1, a2, a3, a4, a5, a6⟩ := h
  have hw : (pkSb l[k].1 l[k].2).data.toList = wh1 l[k] := pkSb_whole h1
  have ht : (s ++ pkSb l[k].1 l[k].2).data.toList = catL (l.take (k + 1)) := by rw [append_list, a5, hw, catL_snoc l k hk]
  have hs : (wh1 l[k]).length ≤ 100 := by rw [← hw, ← size_list]; exact h3
  refine ⟨⟨hk, ?_, fun _ => h2, ?_, ht, by rw [ByteArray.size_append]; omega⟩, by rw [size_list, ht]; rfl⟩
  all_goals
    intro f hf
    rw [frC_take l k hk, List.mem_append, List.mem_singleton] at hf
    rcases hf with hf | rfl
  · exact a2 f hf
  · exact h1
  · exact a4 f hf
  · exact hs
theorem WholeTo.done {l : List Fr} {s : ByteArray} (h : WholeTo l l.length s) : WholeOk l ∧ s.data.toList = catL l := by
  obtain ⟨a1, a2, a3, a4, a5, a6⟩ := h
  rw [List.take_length] at a2 a4 a5
  refine ⟨⟨a2, ?_, a4⟩, a5⟩
  by_cases h0 : 0 < l.length
  · exact a3 h0
  · omega
theorem info_int : (Try.prog.info? 3).map (fun i => (i.zero, i.size, i.bytes)) = some (some (.int .i64 0), 1, 8) := by kernel_rfl
theorem new_one (W : World) (T : TypeId) (a : Value) (g : Nat) (hg : g = W.heap.size) : ∀ (j : Nat) (u : Value), [a][j]? = some u → (W.alloc (.cells #[a] T)).cell? ((⟨g, 0, none⟩ : Addr).add j) = some u := by
  subst hg
  intro j u h
  match j with
  | 0 => simp at h; subst h; simp [Addr.add]
  | j + 1 => simp at h
theorem one_int (n : Int) : ∀ u ∈ [Value.int .i64 n], u.oneCell' = true := by intro u hu; simp at hu; subst hu; rfl

set_option maxRecDepth 100000 in
set_option maxHeartbeats 1000000 in
theorem whole_full (b off cap : Nat) (l : List Fr) (w : World) (hl : l.length ≤ 9223372036854775807) (hb : ∀ f ∈ l, f.2.size ≤ 9223372036854775807) (hc : FrCells w b off l) (hlt : b < w.heap.size) :
    Calls Try.prog 22 #[.slice (some ⟨b, off, none⟩) l.length cap] w (WholePost l w) := by
  obtain ⟨i0, hi, hz0, hz1, hz2⟩ := info_parts info_int
  obtain ⟨n, hn⟩ : ∃ n, n = l.length := ⟨_, rfl⟩
  have HN := Lib.hid hn
  have HC := Lib.hid hc
  have HB := Lib.hid hb
  rw [← hn] at hl
  clear hc hb
  rw [← hn]
  clear hn
  go_enter Try.func22, Try.ntmps22
  go_wp2
  go_loopw [2, 3, 11] (fun t v i wr => ∃ k s, WholeTo l k s ∧ i = .int .i64 (k : Nat) ∧ t = .string s ∧ wr.ownsRow w.heap.size 3 1 v k (endsV l k) ∧ Below w.heap.size w wr) (fun _ _ i _ => n - (intOf i).toNat)
  case atStart => exact ⟨0, _, WholeTo.zero l, rfl, rfl, World.ownsRow_nil _ _ _ _, Below.refl _ _⟩
  case round =>
    obtain ⟨k, s, hto, rfl, rfl, hown, hbw⟩ := hrel
    have hk : k ≤ n := by rw [HN.out]; exact hto.le
    have hss := hto.size
    by_cases hlk : k < n
    · have hlk' : k < l.length := by rw [← HN.out]; exact hlk
      have hc := HC.out.below hbw hlt k hlk'
      have hfew : 0 < k → n ≤ 20 := by rw [HN.out]; exact hto.few
      have HX := Lib.hid (fun h1 h2 => hto.next hlk' h1 (by rw [← HN.out]; exact h2))
      have hfb := HB.out l[k] (List.getElem_mem hlk')
      generalize l[k] = F at hc HX hfb
      obtain ⟨K, D⟩ := F
      obtain ⟨c0, c1⟩ := hc
      have hltr : b < wr.heap.size := Nat.lt_of_lt_of_le hlt hbw.size
      have P1 := fun W => pack04_any K D W hfb
      unfold PackPost frV at P1
      have HX' := Lib.hid (show ∀ h1 : pkE K D.data.toList = 0, n ≤ 20 → (pkSb K D).size ≤ 100 → WholeTo l (k + 1) (s ++ pkSb K D) ∧ (s ++ pkSb K D).size = En l (k + 1) from HX.out)
      clear HX hto
      generalize pkE K D.data.toList = E at *
      generalize pkSb K D = S at *
      replace P1 := Lib.hid P1
      by_cases hE : E = 0
      · subst hE
        by_cases h20 : n ≤ 20
        · by_cases h100 : S.size ≤ 100
          · obtain ⟨hto', hsz'⟩ := HX'.out rfl h20 h100
            have HT := Lib.hid hto'
            have HZ := Lib.hid hsz'
            clear hto' hsz' HX'
            have hi64 : IntKind.i64.wrap ((s.size : Int) + (S.size : Int)) = (En l (k + 1) : Nat) := by rw [IntWalk.i64_in _ (by omega), ← HZ.out, ByteArray.size_append]; omega
            have hin : (s.size : Int) + (S.size : Int) = (En l (k + 1) : Nat) := by rw [← HZ.out, ByteArray.size_append]; omega
            have d20 : decide ((20 : Int) < (n : Int)) = false := by rw [decide_eq_false_iff_not]; omega
            have d100 : decide ((100 : Int) < (S.size : Int)) = false := by rw [decide_eq_false_iff_not]; omega
            go_wp2_with (first | (go_at_call 13; refine (P1.out _).mono ?_; rintro e w1 ⟨rfl, hb1⟩; have hbx := (below_box wr _).trans (hb1.mono (by simp)); have hown1 := ownsRow_below' hown hbx; clear hb1; have hsz1 := hbx.size) | (at_builtin; refine wpList_append_own _ rfl (.tmp 35) (.tmp 38) 46 rfl w.heap.size 3 i0 (.int .i64 0) 1 8 Try.underlying46 hi hz0 hz1 hz2 rfl (by decide) _ _ _ rfl (hown1.alloc _) ⟨w1.heap.size, 0, none⟩ 1 1 [_] rfl rfl (new_one w1 _ _ _ rfl) (one_int _) (by unfold maxLen; omega) (by omega) (by have := hbw.size; simp; omega) ?_; intro v' w' hown' hgrow _; have hbw' := Below.grown ((keepW hbw hbx).alloc (by have := hbw.size; omega) _) hgrow (by have := hbw.size; simp; omega) (fun q hq => (hown.lt q hq).1); clear hgrow))
            go_roundw
            case rel => exact ⟨k + 1, _, HT.out, by go_num, rfl, by rw [endsV_snoc]; exact hown', hbw'⟩
            case measure => simp [intOf]; omega
          · clear HX'
            have d100 : decide ((100 : Int) < (S.size : Int)) = true := by rw [decide_eq_true_eq]; omega
            have d20 : decide ((20 : Int) < (n : Int)) = false := by rw [decide_eq_false_iff_not]; omega
            go_wp2_with (go_at_call 13; refine (P1.out _).mono ?_; rintro e w1 ⟨rfl, hb1⟩)
            have hbx := keepW hbw ((below_box wr _).trans (hb1.mono (by simp)))
            go_ret3
            exact Or.inr ⟨rfl, hbx⟩
        · clear HX'
          have d20 : decide ((20 : Int) < (n : Int)) = true := by rw [decide_eq_true_eq]; omega
          go_wp2_with (go_at_call 13; refine (P1.out _).mono ?_; rintro e w1 ⟨rfl, hb1⟩)
          have hbx := keepW hbw ((below_box wr _).trans (hb1.mono (by simp)))
          go_ret3
          exact Or.inr ⟨rfl, hbx⟩
      · clear HX'
        have hne : ((E : Int) != 0) = true := by rw [bne_iff_ne]; omega
        clear hE
        go_wp2_with (go_at_call 13; refine (P1.out _).mono ?_; rintro e w1 ⟨rfl, hb1⟩)
        have hbx := keepW hbw ((below_box wr _).trans (hb1.mono (by simp)))
        go_ret3
        exact Or.inr ⟨rfl, hbx⟩
    · obtain rfl : k = n := by omega
      have HT := Lib.hid (show WholeTo l l.length s by rw [← HN.out]; exact hto)
      rw [HN.out] at hown
      have HO := Lib.hid hown
      clear hto hown
      go_wp2
      obtain ⟨o1, o2⟩ := HT.out.done
      go_ret3
      exact Or.inl ⟨o1, _, _, rfl, o2, HO.out, hbw⟩
theorem whole_none (a : Option Addr) (cap : Nat) (w : World) : Calls Try.prog 22 #[.slice a 0 cap] w (WholePost [] w) := by
  go_enter Try.func22, Try.ntmps22
  go_wp2
  go_loop [2, 3, 11] (fun t v i => t = .string ⟨#[]⟩ ∧ v = .slice none 0 0 ∧ i = .int .i64 0) (fun _ _ _ => 0)
  case atStart => exact ⟨rfl, rfl, rfl⟩
  case round =>
    obtain ⟨rfl, rfl, rfl⟩ := hrel
    go_wp2
    go_ret3
    exact Or.inl ⟨⟨by simp, by simp, by simp⟩, _, _, rfl, rfl, World.ownsRow_nil _ _ _ _, Below.refl _ _⟩
theorem whole_any (v : Value) (l : List Fr) (w : World) (hl : l.length ≤ 9223372036854775807) (hb : ∀ f ∈ l, f.2.size ≤ 9223372036854775807) (h : FrRow w v l) : Calls Try.prog 22 #[v] w (WholePost l w) := by
  rcases h with ⟨a, cap, rfl, rfl⟩ | ⟨b, off, cap, rfl, hc, hlt⟩
  · exact whole_none a cap w
  · exact whole_full b off cap l w hl hb hc hlt
end Go.Proofs.Ytidnoeahmnfodaa
