/- The reading of a row of the disk's files. -/
import Derived.Test.YtefknfbmphdafaaGreatDs4
import Derived.ProofKit
import Derived.OpenShut
import Derived.SizedLaws
import Derived.Deep.Slices
namespace Go.Proofs.YtefknfbmphdafaaGreat.Ds
open Go.ChangeShapes Go.WideShapes Go.ChangeAt Go.RowKit Go.Maps DkM

structure OkFl (f : Fl) : Prop where
  n1 : f.n.size ≤ 140737488355328
  s1 : f.s.size ≤ 140737488355328
  l1 : f.l.size ≤ 140737488355328
theorem cells_file : Tryz.prog.cellsOf 89 = 3 := by kernel_rfl
set_option maxRecDepth 100000 in
theorem file_cell {H : Type} {enc : TypeId × Value → H} {W : World} {base : Nat} {sp : Nat → Bool} {held : Bool} {a : Addr} {n : Nat} {cs : List Value} {d : DataW H} {ps : List MemPlace}
    (h1 : W.cells? base a (Tryz.prog.cellsOf 89) = some cs) (h2 : DataW.trod enc Tryz.prog W base sp held n 89 cs = some (d, ps)) (hw : ∀ x ∈ d.weights Tryz.prog 89, x ≤ reachBytes) :
    ∃ f : Fl, OkFl f ∧ W.cell? a = some (.string f.n) ∧ W.cell? (a.add 1) = some (.string f.s) ∧ W.cell? (a.add 2) = some (.string f.l) := by
  rw [cells_file] at h1
  obtain ⟨_, hlen, hcell⟩ := World.cells?_some h1
  obtain ⟨xs, k, hk, hxy, _, hxl, hf⟩ := DataW.trod_struct Tryz.underlying89 h2
  match xs, hxl, cs, hlen with
  | [y0, y1, y2], _, [v0, v1, v2], _ =>
    have g0 := hf 0 _ rfl
    have g1 := hf 1 _ rfl
    have g2 := hf 2 _ rfl
    have q0 : DataW.trod enc Tryz.prog W base sp held k 9 [v0] = some y0 := g0
    have q1 : DataW.trod enc Tryz.prog W base sp held k 9 [v1] = some y1 := g1
    have q2 : DataW.trod enc Tryz.prog W base sp held k 9 [v2] = some y2 := g2
    have e0 := hcell 0 (by omega)
    have e1 := hcell 1 (by omega)
    have e2 := hcell 2 (by omega)
    simp only [Prod.mk.injEq] at hxy
    obtain ⟨rfl, _⟩ := hxy
    obtain ⟨z0, hz0, hd0, w0⟩ := DataW.trod_string Tryz.underlying9 q0
    obtain ⟨z1, hz1, hd1, w1⟩ := DataW.trod_string Tryz.underlying9 q1
    obtain ⟨z2, hz2, hd2, w2⟩ := DataW.trod_string Tryz.underlying9 q2
    subst hd0 hd1 hd2
    simp only [List.cons.injEq, and_true] at hz0 hz1 hz2
    subst hz0 hz1 hz2
    have m0 := hw z0.data.toList.length (by simp [DataW.weights, Tryz.underlying89, DataW.weightsEach])
    have m1 := hw z1.data.toList.length (by simp [DataW.weights, Tryz.underlying89, DataW.weightsEach])
    have m2 := hw z2.data.toList.length (by simp [DataW.weights, Tryz.underlying89, DataW.weightsEach])
    unfold reachBytes at m0 m1 m2
    refine ⟨⟨z0, z1, z2⟩, ⟨by show z0.size ≤ _; rw [sz_list]; omega, by show z1.size ≤ _; rw [sz_list]; omega, by show z2.size ≤ _; rw [sz_list]; omega⟩, ?_, ?_, ?_⟩
    · simpa [Addr.add] using e0
    · simpa using e1
    · simpa using e2
def ReadFiles (w : World) (v : Value) : Prop := ∃ L : List Fl, FsAt w 0 v L ∧ (∀ f ∈ L, OkFl f) ∧ L.length ≤ 140737488355328
instance : Inhabited Fl := ⟨⟨nul, nul, nul⟩⟩
set_option maxRecDepth 100000 in
theorem read_files {H : Type} {enc : TypeId × Value → H} {W : World} {base : Nat} {v : Value} {d : DataW H} {ps : List MemPlace} (hok : Value.okWide Tryz.prog W .any base 40 v)
    (h : DataW.Trod enc Tryz.prog W 0 (fun _ => true) true 40 v d ps) (hw : ∀ x ∈ d.weights Tryz.prog 40, x ≤ reachBytes) : ReadFiles W v := by
  obtain ⟨a0, len, cap, rfl⟩ := okWide_slice Tryz.underlying40 hok
  obtain ⟨fuel, hf⟩ := h
  rcases Deep.open_slice Tryz.underlying40 hf with ⟨hcs, hx⟩ | ⟨a, len', cap', m, n, D, Pl, hcs, _, hl, hm, hmm, hx, hel⟩
  · simp [Value.cells] at hcs
    obtain ⟨rfl, rfl, rfl⟩ := hcs
    exact ⟨[], ⟨none, 0, rfl, Nat.le_refl _, fun h => absurd h (by simp)⟩, by simp, by simp⟩
  · simp [Value.cells] at hcs
    obtain ⟨rfl, rfl, rfl⟩ := hcs
    simp only [if_true] at hmm
    simp only [Prod.mk.injEq] at hx
    obtain ⟨rfl, _⟩ := hx
    have hwl : ∀ i, i < len → ∀ x ∈ (D i).weights Tryz.prog 89, x ≤ reachBytes := fun i hi x hx => by
      refine hw x ?_
      simp only [DataW.weights, Tryz.underlying40, List.mem_cons, List.mem_append]
      exact Or.inr (Or.inl (weights_all (List.mem_map.2 ⟨i, List.mem_range.2 hi, rfl⟩) x hx))
    have hlen : len ≤ 140737488355328 := by
      have := hw ((len + (m - len)) * Tryz.prog.bytesOf 89) (by simp [DataW.weights, Tryz.underlying40])
      have e : Tryz.prog.bytesOf 89 = 48 := by kernel_rfl
      rw [e] at this
      unfold reachBytes at this
      omega
    have each : ∀ i, i < len → ∃ f : Fl, OkFl f ∧ W.cell? (a.add (i * 3)) = some (.string f.n) ∧ W.cell? ((a.add (i * 3)).add 1) = some (.string f.s) ∧ W.cell? ((a.add (i * 3)).add 2) = some (.string f.l) := by
      intro i hi
      obtain ⟨cs', h1, h2⟩ := hel i (by omega)
      have := file_cell h1 h2 (hwl i hi)
      rw [cells_file] at this
      exact this
    obtain ⟨l, hll, hP⟩ := list_of len _ each
    refine ⟨l, ?_, fun o ho => ?_, by omega⟩
    · refine ⟨some a, cap, by rw [hll], by omega, fun h0 => ?_⟩
      obtain ⟨b, off, spot⟩ := a
      have hc0 := (hP 0 h0).2.1
      have hspot : spot = none := by simpa [Addr.add] using World.cell?_spot hc0
      subst hspot
      refine ⟨b, off, rfl, Nat.zero_le _, ?_, fun j hj => ?_⟩
      · rw [add_plain] at hc0
        exact cell_lt hc0
      · obtain ⟨_, e0, e1, e2⟩ := hP j hj
        rw [add_plain] at e0
        rw [add_plain, add_plain] at e1 e2
        exact ⟨e0, e1, e2⟩
    · obtain ⟨i, hi, rfl⟩ := List.mem_iff_getElem.1 ho
      exact (hP i hi).1
end Go.Proofs.YtefknfbmphdafaaGreat.Ds
