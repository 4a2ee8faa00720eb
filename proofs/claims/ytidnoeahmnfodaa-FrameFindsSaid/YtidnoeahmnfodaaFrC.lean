/- The walk of Next. -/
import Derived.Test.YtidnoeahmnfodaaFrB
namespace Go.Proofs.Ytidnoeahmnfodaa
open Go.RowKit CrcM FrM

theorem sc_seg (p : UInt8 → Bool) (q : Nat → UInt8 → Bool) (k n : Nat) (s : List UInt8) (h : ∀ j c, j < n → q (k + j) c = p c) :
    sc q k n s = if (s.take n).all p = false then 44 else if s.length < n then 43 else 0 := by
  induction n generalizing k s with
  | zero => cases s <;> simp [sc]
  | succ n ih =>
    cases s with
    | nil => simp [sc]
    | cons c r =>
      have h0 := h 0 c (by omega)
      simp at h0
      have e : sc q k (n + 1) (c :: r) = if q k c = true then sc q (k + 1) n r else 44 := rfl
      rw [e, h0, ih (k + 1) r (fun j c hj => by have := h (j + 1) c (by omega); rw [show k + 1 + j = k + (j + 1) by omega]; exact this)]
      rw [List.take_succ_cons, List.all_cons]
      cases hp : p c <;> simp
theorem rdE_cons (s : List UInt8) (n : Nat) (p : UInt8 → Bool) (L : List (Nat × (UInt8 → Bool))) (q : Nat → UInt8 → Bool) (k : Nat) (h : ∀ j c, j < n → q (k + j) c = p c) :
    rdE s ((n, p) :: L) = if sc q k n s = 0 then rdE (s.drop n) L else sc q k n s := by
  rw [sc_seg p q k n s h]
  show (if (s.take n).all p = false then 44 else if s.length < n then 43 else rdE (s.drop n) L) = _
  by_cases h1 : (s.take n).all p = false
  · rw [if_pos h1, if_pos h1]; rfl
  · rw [if_neg h1, if_neg h1]
    by_cases h2 : s.length < n
    · rw [if_pos h2, if_pos h2]; rfl
    · rw [if_neg h2, if_neg h2]; rfl
theorem rdE_nil (s : List UInt8) : rdE s [] = 0 := by cases s <;> rfl
theorem rdE_head (s : List UInt8) : rdE s [(1, isMark), (1, isKind), (4, isDig)] = sc head 0 6 s := by
  have a0 : ∀ j c, j < 1 → head (0 + j) c = isMark c := fun j c hj => by rw [show 0 + j = 0 by omega]; rfl
  have a1 : ∀ j c, j < 1 → head (1 + j) c = isKind c := fun j c hj => by rw [show 1 + j = 1 by omega]; rfl
  rw [rdE_cons s 1 isMark _ head 0 a0, rdE_cons _ 1 isKind _ head 1 a1, rdE_cons _ 4 isDig _ head 2 (fun j c hj => by unfold head; rw [if_neg (by omega), if_neg (by omega)]), rdE_nil]
  rw [show (6 : Nat) = 1 + (1 + 4) from rfl, sc_add head 0 1 (1 + 4), sc_add head (0 + 1) 1 4]
  by_cases h1 : sc head 0 1 s = 0
  · rw [if_pos h1, if_pos h1]
    by_cases h2 : sc head 1 1 (s.drop 1) = 0
    · rw [if_pos h2, if_pos h2]
      by_cases h3 : sc head 2 4 ((s.drop 1).drop 1) = 0
      · rw [if_pos h3]; exact h3.symm
      · rw [if_neg h3]
    · rw [if_neg h2, if_neg h2]
  · rw [if_neg h1, if_neg h1]
theorem rdE_body (s : List UInt8) (n : Nat) : rdE s [(n, isPlain), (8, isDig)] = sc (body n) 6 (n + 8) s := by
  rw [rdE_cons s n isPlain _ (body n) 6 (fun j c hj => by unfold body; rw [if_pos (by omega)]), rdE_cons _ 8 isDig _ (body n) (6 + n) (fun j c hj => by unfold body; rw [if_neg (by omega)]), rdE_nil, sc_add (body n) 6 n 8]
  by_cases h1 : sc (body n) 6 n s = 0
  · rw [if_pos h1, if_pos h1]
    by_cases h2 : sc (body n) (6 + n) 8 (s.drop n) = 0
    · rw [if_pos h2]; exact h2.symm
    · rw [if_neg h2]
  · rw [if_neg h1, if_neg h1]
def nxBb (s : ByteArray) : ByteArray := if nxE s.data.toList = 0 then s.extract 6 (6 + len4 s.data.toList) else ByteArray.empty
theorem nxBb_list (s : ByteArray) : (nxBb s).data.toList = nxB s.data.toList := by
  unfold nxBb nxB
  split
  · rw [extract_list]
  · rfl
def frV (k : UInt8) (b : ByteArray) : Value := .agg #[.int .u8 (k.toNat : Int), .string b]
def headL : List (Nat × FuncId × (UInt8 → Bool)) := [(1, 33, isMark), (1, 24, isKind), (4, 34, isDig)]
def bodyL (n : Nat) : List (Nat × FuncId × (UInt8 → Bool)) := [(n, 26, isPlain), (8, 34, isDig)]
theorem headL_ok : PlacesOk headL := by
  intro x hx
  simp [headL] at hx
  rcases hx with rfl | rfl | rfl
  · exact ⟨tests_mark, by omega⟩
  · exact ⟨tests_kind, by omega⟩
  · exact ⟨tests_digit, by omega⟩
theorem bodyL_ok (n : Nat) (h : n ≤ 2000) : PlacesOk (bodyL n) := by
  intro x hx
  simp [bodyL] at hx
  rcases hx with rfl | rfl
  · exact ⟨tests_plain, h⟩
  · exact ⟨tests_digit, by omega⟩
theorem read_head (s : ByteArray) (b : Nat) (w : World) (hs : s.size ≤ 9223372036854775807) (hbw : b < w.heap.size)
    (h0 : w.cell? ⟨b, 0, none⟩ = some (.int .i64 1)) (h1 : w.cell? ⟨b, 1, none⟩ = some (.func (.func 33) #[] #[])) (h2 : w.cell? ⟨b, 2, none⟩ = some (.int .i64 1))
    (h3 : w.cell? ⟨b, 3, none⟩ = some (.func (.func 24) #[] #[])) (h4 : w.cell? ⟨b, 4, none⟩ = some (.int .i64 4)) (h5 : w.cell? ⟨b, 5, none⟩ = some (.func (.func 34) #[] #[])) :
    Calls Try.prog 32 #[.string s, .slice (some ⟨b, 0, none⟩) 3 3] w (ReadPost (sc head 0 6 s.data.toList) w) := by
  rw [← rdE_head]
  refine read_any s b 3 headL rfl (by omega) w hs headL_ok ⟨fun j hj => ?_, fun j hj => ?_⟩ hbw
  all_goals
    rcases (show j = 0 ∨ j = 1 ∨ j = 2 by simp [headL] at hj; omega) with rfl | rfl | rfl
  · exact h0
  · exact h2
  · exact h4
  · exact h1
  · exact h3
  · exact h5
theorem read_body (s : ByteArray) (n b : Nat) (hn : n ≤ 2000) (w : World) (hs : s.size ≤ 9223372036854775807) (hbw : b < w.heap.size)
    (h0 : w.cell? ⟨b, 0, none⟩ = some (.int .i64 n)) (h1 : w.cell? ⟨b, 1, none⟩ = some (.func (.func 26) #[] #[])) (h2 : w.cell? ⟨b, 2, none⟩ = some (.int .i64 8))
    (h3 : w.cell? ⟨b, 3, none⟩ = some (.func (.func 34) #[] #[])) :
    Calls Try.prog 32 #[.string s, .slice (some ⟨b, 0, none⟩) 2 2] w (ReadPost (sc (body n) 6 (n + 8) s.data.toList) w) := by
  rw [← rdE_body]
  refine read_any s b 2 (bodyL n) rfl (by omega) w hs (bodyL_ok n hn) ⟨fun j hj => ?_, fun j hj => ?_⟩ hbw
  all_goals
    rcases (show j = 0 ∨ j = 1 by simp [bodyL] at hj; omega) with rfl | rfl
  · exact h0
  · exact h2
  · exact h1
  · exact h3

/-- What Next leaves. -/
def NextPost (s : ByteArray) (w : World) (e : Ending) (w' : World) : Prop :=
  e = .returned (.tuple #[frV (nxK s.data.toList) (nxBb s), .int .i64 (nxN s.data.toList), .int .i64 (nxE s.data.toList)]) ∧ Below w.heap.size w w'
theorem nextPost_bad (s : ByteArray) (c : Nat) (w w' : World) (h : nxE s.data.toList = c) (hc : c ≠ 0) (hb : Below w.heap.size w w') :
    NextPost s w (.returned (.tuple #[.agg #[.int .u8 0, .string ⟨#[]⟩], .int .i64 0, .int .i64 c])) w' := by
  refine ⟨?_, hb⟩
  have hn : ¬ nxE s.data.toList = 0 := by omega
  unfold frV nxK nxBb nxN
  rw [if_neg hn, if_neg hn, if_neg hn, h]
  rfl

theorem nxE_head (s : List UInt8) (h : sc head 0 6 s ≠ 0) : nxE s = sc head 0 6 s := by unfold nxE; rw [if_pos h]
theorem nxE_long (s : List UInt8) (h : sc head 0 6 s = 0) (h2 : 2000 < len4 s) : nxE s = 44 := by unfold nxE; rw [if_neg (by omega), if_pos h2]
theorem nxE_body (s : List UInt8) (h : sc head 0 6 s = 0) (h2 : ¬ 2000 < len4 s) (h3 : sc (body (len4 s)) 6 (len4 s + 8) (s.drop 6) ≠ 0) : nxE s = sc (body (len4 s)) 6 (len4 s + 8) (s.drop 6) := by
  unfold nxE; rw [if_neg (by omega), if_neg h2, if_pos h3]
theorem nxE_sum (s : List UInt8) (h : sc head 0 6 s = 0) (h2 : ¬ 2000 < len4 s) (h3 : sc (body (len4 s)) 6 (len4 s + 8) (s.drop 6) = 0)
    (h4 : (s.drop (6 + len4 s)).take 8 ≠ hex 8 (smm ((s.take (6 + len4 s)).drop 1))) : nxE s = 45 := by
  unfold nxE; rw [if_neg (by omega), if_neg h2, if_neg (by omega), if_pos h4]
theorem nxE_ok (s : List UInt8) (h : sc head 0 6 s = 0) (h2 : ¬ 2000 < len4 s) (h3 : sc (body (len4 s)) 6 (len4 s + 8) (s.drop 6) = 0)
    (h4 : (s.drop (6 + len4 s)).take 8 = hex 8 (smm ((s.take (6 + len4 s)).drop 1))) : nxE s = 0 := by
  unfold nxE; rw [if_neg (by omega), if_neg h2, if_neg (by omega), if_neg (by simpa using h4)]
theorem head_digs (s : List UInt8) (h : sc head 0 6 s = 0) : 6 ≤ s.length ∧ unB ((s.drop 2).take 4) = true ∧ unR ((s.drop 2).take 4) = len4 s ∧ len4 s < 65536 := by
  obtain ⟨h1, h2⟩ := sc_zero head 0 6 s h
  have hd : allDig ((s.drop 2).take 4) = true := by
    unfold allDig
    rw [List.all_eq_true]
    intro x hx
    obtain ⟨i, hi, rfl⟩ := List.mem_iff_getElem.1 hx
    have hi4 : i < 4 := by simp at hi; omega
    have := h2 (2 + i) (by omega) (by omega)
    unfold head at this
    rw [if_neg (by omega), if_neg (by omega)] at this
    simpa [Nat.zero_add] using this
  have hl : ((s.drop 2).take 4).length = 4 := by simp; omega
  have hB : unB ((s.drop 2).take 4) = true := by unfold unB; rw [hd, hl]; rfl
  refine ⟨h1, hB, by unfold unR; rw [hB]; rfl, ?_⟩
  have := (unhex_big _ 4 hd (by omega) (by omega)).1
  exact this

/-- The result's own block is there as it was made, and all that was there before. -/
structure HasRes (T : TypeId) (w w1 : World) : Prop where
  block : w1.heap[w.heap.size]? = some (.cells #[.int .u8 0, .string ⟨#[]⟩] T (0, 0))
  below : Below w.heap.size w w1
theorem HasRes.start (T : TypeId) (w : World) : HasRes T w (w.alloc (.cells #[.int .u8 0, .string ⟨#[]⟩] T)) := ⟨heap_alloc_new _ _, (Below.refl _ _).alloc (Nat.le_refl _) _⟩
theorem HasRes.lt {T : TypeId} {w w1 : World} (h : HasRes T w w1) : w.heap.size < w1.heap.size := by
  have hb := h.block
  by_cases hlt : w.heap.size < w1.heap.size
  · exact hlt
  · rw [Array.getElem?_eq_none (by omega)] at hb; cases hb
theorem HasRes.step {T : TypeId} {w w1 w2 : World} (h : HasRes T w w1) (hb : Below w1.heap.size w1 w2) : HasRes T w w2 :=
  ⟨(hb.block _ h.lt).trans h.block, h.below.trans (hb.mono h.below.size)⟩
theorem HasRes.alloc {T : TypeId} {w w1 : World} (h : HasRes T w w1) (o : Obj) : HasRes T w (w1.alloc o) := h.step ((Below.refl _ _).alloc (Nat.le_refl _) o)
theorem HasRes.cells {T : TypeId} {w w1 : World} (h : HasRes T w w1) : w1.cell? ⟨w.heap.size, 0, none⟩ = some (.int .u8 0) ∧ w1.cell? ⟨w.heap.size, 1, none⟩ = some (.string ⟨#[]⟩) ∧ w1.frozen? ⟨w.heap.size, 0, none⟩ = false ∧ w1.frozen? ⟨w.heap.size, 1, none⟩ = false :=
  ⟨by rw [cell_of_row _ _ _ _ _ _ h.block]; rfl, by rw [cell_of_row _ _ _ _ _ _ h.block]; rfl, frozen_of_row _ _ _ _ _ h.block, frozen_of_row _ _ _ _ _ h.block⟩

theorem HasRes.put {T : TypeId} {w w1 : World} (h : HasRes T w w1) (a b : Value) : ((w1.setCell ⟨w.heap.size, 0, none⟩ a).setCell ⟨w.heap.size, 1, none⟩ b).heap[w.heap.size]? = some (.cells #[a, b] T (0, 0)) ∧
    Below w.heap.size w ((w1.setCell ⟨w.heap.size, 0, none⟩ a).setCell ⟨w.heap.size, 1, none⟩ b) := by
  refine ⟨?_, (h.below.setCell (Nat.le_refl _) _).setCell (Nat.le_refl _) _⟩
  rw [heap_setCell_same _ _ _ _ _ _ (heap_setCell_same _ _ _ _ _ _ h.block)]
  rfl
/-- Three results, the first of which is a struct in a block of its own. -/
theorem results_row3 {P : Program} {fn : Func} {p a b : Tmp} {ty : TypeId} (h : fn.results = #[.cell p ty, .tmp a, .tmp b]) (tmps : Array Value) (w : World) (g : Nat) (t : TypeId) (cs : Array Value) (fr : Nat × Nat) (d : TypeDesc)
    (hp : tmps.getD p undef = .pointer (some ⟨g, 0, none⟩)) (hg : w.heap[g]? = some (.cells cs t fr))
    (hu : P.underlying ty = some d) (hd : (match d with | .struct _ | .array _ _ => true | _ => false) = true) (hi : (P.info? ty).map (·.size) = some cs.size) :
    (results fn tmps).run P w = .ok (.tuple #[.agg cs, tmps.getD a undef, tmps.getD b undef]) w := by
  have hp' : tmps[p]?.getD undef = .pointer (some ⟨g, 0, none⟩) := by simpa using hp
  simp [results, h, hp', asAddr, run_loadVar_row w g t ty cs fr d hg hu hd hi]
theorem info_frame : (Try.prog.info? 28).map (·.size) = some 2 := by kernel_rfl

set_option maxRecDepth 100000 in
set_option maxHeartbeats 1000000 in
theorem next_bad1 (s : ByteArray) (w : World) (hs : s.size ≤ 9223372036854775807) (g1 : sc head 0 6 s.data.toList ≠ 0) :
    Calls Try.prog 14 #[.string s] w (NextPost s w) := by
  have hE := nxE_head _ g1
  have HP := Lib.hid (nextPost_bad s _ w (h := hE) (hc := g1))
  have RH := Lib.hid (read_head s)
  obtain ⟨e1, he1⟩ : ∃ e1, e1 = sc head 0 6 s.data.toList := ⟨_, rfl⟩
  rw [← he1] at RH HP g1
  clear hE he1
  have ht : ((e1 : Int) != 0) = true := by rw [bne_iff_ne]; omega
  go_enter Try.func14, Try.ntmps14
  go_wp2_with fail
  refine (RH.out _ _ hs (by simp) (by simp) (by simp) (by simp) (by simp) (by simp) (by simp)).mono ?_
  rintro e w1 ⟨r, rfl, hb1⟩
  have hr := ((HasRes.start 28 w).alloc _).step hb1
  clear hb1
  obtain ⟨c0, c1, f0, f1⟩ := hr.cells
  go_wp2
  obtain ⟨p1, p2⟩ := hr.put (.int .u8 0) (.string ⟨#[]⟩)
  exact bodyPost_ret (results_row3 (p := 2) (a := 3) (b := 4) rfl _ _ _ _ _ _ _ rfl p1 Try.underlying28 rfl info_frame) rfl (HP.out _ p2)

theorem extract_rest (x : ByteArray) (a : Nat) : (x.extract a x.size).data.toList = x.data.toList.drop a := by rw [extract_list, take_all]
theorem len6 (s : ByteArray) (h : 6 ≤ s.data.toList.length) : 6 ≤ s.size := by rw [size_list]; exact h

set_option maxRecDepth 100000 in
set_option maxHeartbeats 1000000 in
theorem next_bad2 (s : ByteArray) (w : World) (hs : s.size ≤ 9223372036854775807) (g1 : sc head 0 6 s.data.toList = 0) (g2 : 2000 < len4 s.data.toList) :
    Calls Try.prog 14 #[.string s] w (NextPost s w) := by
  have hE := nxE_long _ g1 g2
  have HP := Lib.hid (nextPost_bad s _ w (h := hE) (hc := by omega))
  have RH := read_head s
  rw [g1] at RH
  have RH := Lib.hid RH
  obtain ⟨d1, d2, d3, d4⟩ := head_digs _ g1
  have h6 := len6 s d1
  have UN := unhex_any (s.extract 2 6)
  rw [extract_list, List.drop_take, show (6 : Nat) - 2 = 4 from rfl, d2, d3] at UN
  have UN := Lib.hid UN
  have hxs : (s.extract 2 6).size ≤ 9223372036854775807 := by rw [extract_size]; omega
  obtain ⟨n, hn⟩ : ∃ n, n = len4 s.data.toList := ⟨_, rfl⟩
  rw [← hn] at UN g2 d4
  clear hE d1 d2 d3 g1 hn
  go_enter Try.func14, Try.ntmps14
  go_wp2_with fail
  refine (RH.out _ _ hs (by simp) (by simp) (by simp) (by simp) (by simp) (by simp) (by simp)).mono ?_
  rintro e w1 ⟨r, rfl, hb1⟩
  have hr := ((HasRes.start 28 w).alloc _).step hb1
  clear hb1
  obtain ⟨c0, c1, f0, f1⟩ := hr.cells
  go_wp2_with fail
  refine (UN.out _ hxs).mono ?_
  rintro e w2 ⟨rfl, rfl⟩
  go_wp2
  obtain ⟨p1, p2⟩ := hr.put (.int .u8 0) (.string ⟨#[]⟩)
  exact bodyPost_ret (results_row3 (p := 2) (a := 3) (b := 4) rfl _ _ _ _ _ _ _ rfl p1 Try.underlying28 rfl info_frame) rfl (HP.out _ p2)

set_option maxRecDepth 100000 in
set_option maxHeartbeats 1000000 in
theorem next_bad3 (s : ByteArray) (w : World) (hs : s.size ≤ 9223372036854775807) (g1 : sc head 0 6 s.data.toList = 0) (g2 : ¬ 2000 < len4 s.data.toList)
    (g3 : sc (body (len4 s.data.toList)) 6 (len4 s.data.toList + 8) (s.data.toList.drop 6) ≠ 0) :
    Calls Try.prog 14 #[.string s] w (NextPost s w) := by
  have hE := nxE_body _ g1 g2 g3
  have HP := Lib.hid (nextPost_bad s _ w (h := hE) (hc := g3))
  have RH := read_head s
  rw [g1] at RH
  have RH := Lib.hid RH
  obtain ⟨d1, d2, d3, d4⟩ := head_digs _ g1
  have h6 := len6 s d1
  have UN := unhex_any (s.extract 2 6)
  rw [extract_list, List.drop_take, show (6 : Nat) - 2 = 4 from rfl, d2, d3] at UN
  have UN := Lib.hid UN
  have hxs : (s.extract 2 6).size ≤ 9223372036854775807 := by rw [extract_size]; omega
  have RB := read_body (s.extract 6 s.size)
  rw [extract_rest] at RB
  have hys : (s.extract 6 s.size).size ≤ 9223372036854775807 := by rw [extract_size]; omega
  obtain ⟨n, hn⟩ : ∃ n, n = len4 s.data.toList := ⟨_, rfl⟩
  have RB := RB n
  rw [← hn] at UN g2 d4 g3 HP
  generalize sc (body n) 6 (n + 8) (s.data.toList.drop 6) = e2 at *
  have RB := Lib.hid RB
  clear hE d1 d2 d3 g1 hn
  have ht : ((e2 : Int) != 0) = true := by rw [bne_iff_ne]; omega
  go_enter Try.func14, Try.ntmps14
  go_wp2_with fail
  refine (RH.out _ _ hs (by simp) (by simp) (by simp) (by simp) (by simp) (by simp) (by simp)).mono ?_
  rintro e w1 ⟨r, rfl, hb1⟩
  have hr := ((HasRes.start 28 w).alloc _).step hb1
  clear hb1
  go_wp2_with fail
  refine (UN.out _ hxs).mono ?_
  rintro e w2 ⟨rfl, rfl⟩
  go_wp2_with fail
  refine (RB.out _ (by omega) _ hys (by simp) (by simp) (by simp) (by simp) (by simp)).mono ?_
  rintro e w2 ⟨r2, rfl, hb2⟩
  have hr2 := (hr.alloc _).step hb2
  clear hb2 hr
  obtain ⟨c0, c1, f0, f1⟩ := hr2.cells
  go_wp2
  obtain ⟨p1, p2⟩ := hr2.put (.int .u8 0) (.string ⟨#[]⟩)
  exact bodyPost_ret (results_row3 (p := 2) (a := 3) (b := 4) rfl _ _ _ _ _ _ _ rfl p1 Try.underlying28 rfl info_frame) rfl (HP.out _ p2)
end Go.Proofs.Ytidnoeahmnfodaa
