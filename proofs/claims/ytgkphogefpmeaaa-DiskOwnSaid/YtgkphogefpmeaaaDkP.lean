/- The reading of a slice of ops, and of a slice of numbers. -/
import Derived.Test.YtgkphogefpmeaaaDkV
import Derived.ProofKit
import Derived.OpenShut
import Derived.SizedLaws
import Derived.Deep.Slices
namespace Go.Proofs.Ytgkphogefpmeaaa
open Go.ChangeShapes Go.WideShapes Go.ChangeAt Go.RowKit Go.Maps DkM

structure Op5 where
  k : Int
  a : ByteArray
  b : ByteArray
  n : Int
structure OkOp (o : Op5) : Prop where
  k0 : -9223372036854775808 ≤ o.k
  k1 : o.k ≤ 9223372036854775807
  a1 : o.a.size ≤ 140737488355328
  b1 : o.b.size ≤ 140737488355328
  n0 : -9223372036854775808 ≤ o.n
  n1 : o.n ≤ 9223372036854775807
def OpCell (w : World) (b off : Nat) (o : Op5) : Prop :=
  w.cell? ⟨b, off, none⟩ = some (.int .i64 o.k) ∧ w.cell? ⟨b, off + 1, none⟩ = some (.string o.a) ∧ w.cell? ⟨b, off + 2, none⟩ = some (.string o.b) ∧ w.cell? ⟨b, off + 3, none⟩ = some (.int .i64 o.n)
/-- A slice of ops. -/
def OpsAt (w : World) (v : Value) (l : List Op5) : Prop :=
  ∃ A cap, v = .slice A l.length cap ∧ l.length ≤ cap ∧ (0 < l.length → ∃ b off, A = some ⟨b, off, none⟩ ∧ b < w.heap.size ∧ ∀ j (h : j < l.length), OpCell w b (off + j * 4) l[j])
theorem OpCell.below {w w' : World} {b off : Nat} {o : Op5} (h : OpCell w b off o) (hb : Below w.heap.size w w') (hl : b < w.heap.size) : OpCell w' b off o :=
  ⟨(hb.cell (by exact hl)).trans h.1, (hb.cell (by exact hl)).trans h.2.1, (hb.cell (by exact hl)).trans h.2.2.1, (hb.cell (by exact hl)).trans h.2.2.2⟩
theorem OpsAt.below {w w' : World} {v : Value} {l : List Op5} (h : OpsAt w v l) (hb : Below w.heap.size w w') : OpsAt w' v l := by
  obtain ⟨A, cap, h1, h2, h3⟩ := h
  refine ⟨A, cap, h1, h2, fun hl => ?_⟩
  obtain ⟨b, off, e, hlt, hc⟩ := h3 hl
  exact ⟨b, off, e, Nat.lt_of_lt_of_le hlt hb.size, fun j hj => (hc j hj).below hb hlt⟩
theorem list_of {α : Type} [Inhabited α] (n : Nat) (P : Nat → α → Prop) (h : ∀ i, i < n → ∃ x, P i x) : ∃ l : List α, l.length = n ∧ ∀ i (hi : i < l.length), P i l[i] := by
  classical
  refine ⟨(List.range n).map fun i => if h' : i < n then Classical.choose (h i h') else default, by simp, fun i hi => ?_⟩
  have hn : i < n := by simpa using hi
  simp only [List.getElem_map, List.getElem_range, hn, dif_pos]
  exact Classical.choose_spec (h i hn)
theorem add_plain (b off n : Nat) : (⟨b, off, none⟩ : Addr).add n = ⟨b, off + n, none⟩ := by unfold Addr.add; split <;> simp_all
theorem weights_all {H : Type} {P : Program} {e : TypeId} : ∀ {l : List (DataW H)} {d : DataW H}, d ∈ l → ∀ n ∈ d.weights P e, n ∈ DataW.weightsAll P e l
  | x :: r, d, hd, n, hn => by
    simp only [DataW.weightsAll, List.mem_append]
    rcases List.mem_cons.1 hd with rfl | hr
    · exact Or.inl hn
    · exact Or.inr (weights_all hr n hn)
theorem cells_op : Try.prog.cellsOf 34 = 4 := by kernel_rfl
set_option maxRecDepth 100000 in
theorem op_cell {H : Type} {enc : TypeId × Value → H} {W : World} {base : Nat} {sp : Nat → Bool} {held : Bool} {a : Addr} {n : Nat} {cs : List Value} {d : DataW H} {ps : List MemPlace}
    (h1 : W.cells? base a (Try.prog.cellsOf 34) = some cs) (h2 : DataW.trod enc Try.prog W base sp held n 34 cs = some (d, ps)) (hw : ∀ x ∈ d.weights Try.prog 34, x ≤ reachBytes) :
    ∃ o : Op5, OkOp o ∧ W.cell? a = some (.int .i64 o.k) ∧ W.cell? (a.add 1) = some (.string o.a) ∧ W.cell? (a.add 2) = some (.string o.b) ∧ W.cell? (a.add 3) = some (.int .i64 o.n) := by
  rw [cells_op] at h1
  obtain ⟨_, hlen, hcell⟩ := World.cells?_some h1
  obtain ⟨xs, k, hk, hxy, _, hxl, hf⟩ := DataW.trod_struct Try.underlying34 h2
  match xs, hxl, cs, hlen with
  | [y0, y1, y2, y3], _, [v0, v1, v2, v3], _ =>
    have g0 := hf 0 _ rfl
    have g1 := hf 1 _ rfl
    have g2 := hf 2 _ rfl
    have g3 := hf 3 _ rfl
    have q0 : DataW.trod enc Try.prog W base sp held k 3 [v0] = some y0 := g0
    have q1 : DataW.trod enc Try.prog W base sp held k 9 [v1] = some y1 := g1
    have q2 : DataW.trod enc Try.prog W base sp held k 9 [v2] = some y2 := g2
    have q3 : DataW.trod enc Try.prog W base sp held k 3 [v3] = some y3 := g3
    have e0 := hcell 0 (by omega)
    have e1 := hcell 1 (by omega)
    have e2 := hcell 2 (by omega)
    have e3 := hcell 3 (by omega)
    simp only [Prod.mk.injEq] at hxy
    obtain ⟨rfl, _⟩ := hxy
    obtain ⟨z0, hz0, hd0, w0⟩ := DataW.trod_int Try.underlying3 q0
    obtain ⟨z1, hz1, hd1, w1⟩ := DataW.trod_string Try.underlying9 q1
    obtain ⟨z2, hz2, hd2, w2⟩ := DataW.trod_string Try.underlying9 q2
    obtain ⟨z3, hz3, hd3, w3⟩ := DataW.trod_int Try.underlying3 q3
    subst hd0 hd1 hd2 hd3
    simp only [List.cons.injEq, and_true] at hz0 hz1 hz2 hz3
    subst hz0 hz1 hz2 hz3
    have b0 := bounds_i64 w0
    have b3 := bounds_i64 w3
    have m1 := hw z1.data.toList.length (by simp [DataW.weights, Try.underlying34, DataW.weightsEach])
    have m2 := hw z2.data.toList.length (by simp [DataW.weights, Try.underlying34, DataW.weightsEach])
    unfold reachBytes at m1 m2
    refine ⟨⟨z0, z1, z2, z3⟩, ⟨b0.1, b0.2, by show z1.size ≤ _; rw [sz_list]; omega, by show z2.size ≤ _; rw [sz_list]; omega, b3.1, b3.2⟩, ?_, ?_, ?_, ?_⟩
    · simpa [Addr.add] using e0
    · simpa using e1
    · simpa using e2
    · simpa using e3
def ReadOps (w : World) (v : Value) : Prop := ∃ l : List Op5, OpsAt w v l ∧ (∀ o ∈ l, OkOp o) ∧ l.length ≤ 140737488355328
instance : Inhabited Op5 := ⟨⟨0, nul, nul, 0⟩⟩
set_option maxRecDepth 100000 in
theorem read_ops {H : Type} {enc : TypeId × Value → H} {W : World} {base : Nat} {v : Value} {d : DataW H} {ps : List MemPlace} (hok : Value.okWide Try.prog W .any base 22 v)
    (h : DataW.Trod enc Try.prog W 0 (fun _ => true) true 22 v d ps) (hw : ∀ x ∈ d.weights Try.prog 22, x ≤ reachBytes) : ReadOps W v := by
  obtain ⟨a0, len, cap, rfl⟩ := okWide_slice Try.underlying22 hok
  obtain ⟨fuel, hf⟩ := h
  rcases Deep.open_slice Try.underlying22 hf with ⟨hcs, hx⟩ | ⟨a, len', cap', m, n, D, Pl, hcs, _, hl, hm, hmm, hx, hel⟩
  · simp [Value.cells] at hcs
    obtain ⟨rfl, rfl, rfl⟩ := hcs
    exact ⟨[], ⟨none, 0, rfl, Nat.le_refl _, fun h => absurd h (by simp)⟩, by simp, by simp⟩
  · simp [Value.cells] at hcs
    obtain ⟨rfl, rfl, rfl⟩ := hcs
    simp only [if_true] at hmm
    simp only [Prod.mk.injEq] at hx
    obtain ⟨rfl, _⟩ := hx
    have hwl : ∀ i, i < len → ∀ x ∈ (D i).weights Try.prog 34, x ≤ reachBytes := fun i hi x hx => by
      refine hw x ?_
      simp only [DataW.weights, Try.underlying22, List.mem_cons, List.mem_append]
      exact Or.inr (Or.inl (weights_all (List.mem_map.2 ⟨i, List.mem_range.2 hi, rfl⟩) x hx))
    have hlen : len ≤ 140737488355328 := by
      have := hw ((len + (m - len)) * Try.prog.bytesOf 34) (by simp [DataW.weights, Try.underlying22])
      have e : Try.prog.bytesOf 34 = 48 := by kernel_rfl
      rw [e] at this
      unfold reachBytes at this
      omega
    have each : ∀ i, i < len → ∃ o : Op5, OkOp o ∧ W.cell? (a.add (i * 4)) = some (.int .i64 o.k) ∧ W.cell? ((a.add (i * 4)).add 1) = some (.string o.a) ∧ W.cell? ((a.add (i * 4)).add 2) = some (.string o.b) ∧ W.cell? ((a.add (i * 4)).add 3) = some (.int .i64 o.n) := by
      intro i hi
      obtain ⟨cs', h1, h2⟩ := hel i (by omega)
      have := op_cell h1 h2 (hwl i hi)
      rw [cells_op] at this
      exact this
    obtain ⟨l, hll, hP⟩ := list_of len _ each
    refine ⟨l, ?_, fun o ho => ?_, by omega⟩
    · refine ⟨some a, cap, by rw [hll], by omega, fun h0 => ?_⟩
      obtain ⟨b, off, spot⟩ := a
      have hc0 := (hP 0 h0).2.1
      have hspot : spot = none := by simpa [Addr.add] using World.cell?_spot hc0
      subst hspot
      refine ⟨b, off, rfl, ?_, fun j hj => ?_⟩
      · rw [add_plain] at hc0
        exact cell_lt hc0
      · obtain ⟨_, e0, e1, e2, e3⟩ := hP j hj
        rw [add_plain] at e0
        rw [add_plain, add_plain] at e1 e2 e3
        exact ⟨e0, e1, e2, e3⟩
    · obtain ⟨i, hi, rfl⟩ := List.mem_iff_getElem.1 ho
      exact (hP i hi).1

def ReadInts (w : World) (v : Value) : Prop := ∃ (ks : List Int) (kb : Nat), IntsAt w kb ks v ∧ (0 < ks.length → kb < w.heap.size) ∧ (∀ x ∈ ks, -9223372036854775808 ≤ x ∧ x ≤ 9223372036854775807) ∧ ks.length ≤ 9223372036854775807 ∧ ∀ a n cap, v = .slice a n cap → cap ≤ 9223372036854775807
set_option maxRecDepth 100000 in
theorem read_ints {H : Type} {enc : TypeId × Value → H} {W : World} {base : Nat} {v : Value} {d : DataW H} {ps : List MemPlace} (hok : Value.okWide Try.prog W .any base 23 v)
    (h : DataW.Trod enc Try.prog W 0 (fun _ => true) true 23 v d ps) : ReadInts W v := by
  obtain ⟨a0, len, cap, rfl⟩ := okWide_slice Try.underlying23 hok
  obtain ⟨fuel, hf⟩ := h
  rcases Deep.open_slice1 Try.underlying23 (by kernel_rfl) hf with ⟨hcs, hx⟩ | ⟨a, len', cap', m, n, V, D, Pl, hcs, _, hl, hm, hmm, hx, hel⟩
  · simp [Value.cells] at hcs
    obtain ⟨rfl, rfl, rfl⟩ := hcs
    exact ⟨[], 0, IntsAt.none_ _ _ _ _, fun h => absurd h (by simp), by simp, by simp, fun a n cap h => by cases h; simp⟩
  · simp [Value.cells] at hcs
    obtain ⟨rfl, rfl, rfl⟩ := hcs
    simp only [if_true] at hmm
    unfold maxLen at hm
    have each : ∀ i, i < len → ∃ x : Int, (-9223372036854775808 ≤ x ∧ x ≤ 9223372036854775807) ∧ W.cell? (a.add i) = some (.int .i64 x) := by
      intro i hi
      obtain ⟨c0, t0⟩ := hel i (by omega)
      obtain ⟨x, hx0, _, hw⟩ := DataW.trod_int Try.underlying3 t0
      simp at hx0
      exact ⟨x, bounds_i64 hw, by rw [c0, hx0]⟩
    obtain ⟨l, hll, hP⟩ := list_of len _ each
    obtain ⟨b, off, spot⟩ := a
    refine ⟨l, b, ⟨some ⟨b, off, spot⟩, cap, by rw [hll], by omega, fun h0 => ?_⟩, fun h0 => ?_, fun x hx => ?_, by omega, fun a n cap h => by cases h; omega⟩
    · have hc0 := (hP 0 h0).2
      have hspot : spot = none := by simpa [Addr.add] using World.cell?_spot hc0
      subst hspot
      refine ⟨off, rfl, fun k hk => ?_⟩
      have := (hP k hk).2
      rw [add_plain] at this
      exact this
    · have hc0 := (hP 0 h0).2
      have := cell_lt hc0
      unfold Addr.add at this
      split at this <;> exact this
    · obtain ⟨i, hi, rfl⟩ := List.mem_iff_getElem.1 hx
      exact (hP i hi).1
end Go.Proofs.Ytgkphogefpmeaaa
