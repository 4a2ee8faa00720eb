/- The disk in memory: a block of seven cells, and the map; what a call leaves of the rest. -/
import Derived.Test.YtgkphogefpmeaaaProg
import Derived.Test.YtgkphogefpmeaaaDkM
import Derived.WalkKit
import Derived.WalkSpells
import Derived.WalkLawsBesides
import Derived.Lib.Hide
import Derived.Maps.OwnSet
import Derived.Laws.Rows
import Derived.Deep.Draws
import Derived.StillTailTactics
import Derived.Deep.QuietTactic
import Derived.BigQuiet
namespace Go.Proofs.Ytgkphogefpmeaaa
open Go.RowKit Go.Maps DkM

theorem ret_int {k : IntKind} {a b : Int} (h : a = b) : Ending.returned (.int k a) = .returned (.int k b) := by rw [h]
theorem ret_bool {a b : Bool} (h : a = b) : Ending.returned (.bool a) = .returned (.bool b) := by rw [h]
theorem int_eq {k : IntKind} {a b : Int} (h : a = b) : Value.int k a = .int k b := by rw [h]

/-! ### a block that is known whole -/
def Blk (w : World) (g : Nat) (t : TypeId) (cs : Array Value) : Prop := w.heap[g]? = some (.cells cs t (0, 0))
section
variable {w w' : World} {g : Nat} {t : TypeId} {cs : Array Value}
theorem Blk.lt (h : Blk w g t cs) : g < w.heap.size := by
  rcases Nat.lt_or_ge g w.heap.size with hlt | hge
  · exact hlt
  · unfold Blk at h; rw [Array.getElem?_eq_none hge] at h; cases h
theorem Blk.cell (h : Blk w g t cs) (i : Nat) : w.cell? ⟨g, i, none⟩ = cs[i]? := cell_of_row w g i cs t (0, 0) h
theorem Blk.frozen (h : Blk w g t cs) (i : Nat) : w.frozen? ⟨g, i, none⟩ = false := by
  unfold Blk at h
  simp [World.frozen?, h]
theorem Blk.new (w : World) (t : TypeId) (cs : Array Value) : Blk (w.alloc (.cells cs t)) w.heap.size t cs := heap_alloc_new w _
theorem Blk.alloc (h : Blk w g t cs) (o : Obj) : Blk (w.alloc o) g t cs := (Below.heap_alloc w o g h.lt).trans h
theorem Blk.set_ (h : Blk w g t cs) (i : Nat) (u : Value) : Blk (w.setCell ⟨g, i, none⟩ u) g t (cs.setIfInBounds i u) := by
  unfold Blk at h ⊢
  simp [World.setCell, Array.getElem?_modify, h]
theorem Blk.far (h : Blk w g t cs) {p : Addr} (hp : g ≠ p.block) (u : Value) : Blk (w.setCell p u) g t cs := (Below.heap_setCell w p u g hp).trans h
end

/-! ### the disk -/
structure Dk where
  L : List Fl
  lim : Int
  fuse : Int
  used : Int
  ops : Int
  reads : Int
  down : Bool
def dkC (b : Nat) (S : Dk) : Array Value := #[.map (some b), .int .i64 S.lim, .int .i64 S.fuse, .int .i64 S.used, .int .i64 S.ops, .int .i64 S.reads, .bool S.down]
def Own (w : World) (b : Nat) (L : List Fl) : Prop := w.ownsMap Try.prog 9 holdV b L.length (toD L)
structure DiskAt (w : World) (p b : Nat) (S : Dk) : Prop where
  blk : Blk w p 71 (dkC b S)
  own : Own w b S.L

/-- What may have turned: two blocks, and what is new. -/
structure Kp (p b : Nat) (w w' : World) : Prop where
  os : w'.os = w.os
  tape : w'.tape = w.tape
  output : w'.output = w.output
  size : w.heap.size ≤ w'.heap.size
  block : ∀ k, k < w.heap.size → k ≠ p → k ≠ b → w'.heap[k]? = w.heap[k]?
section
variable {p b : Nat} {w w' w'' : World}
theorem Kp.refl (p b : Nat) (w : World) : Kp p b w w := ⟨rfl, rfl, rfl, Nat.le_refl _, fun _ _ _ _ => rfl⟩
theorem Kp.trans (h : Kp p b w w') (k : Kp p b w' w'') : Kp p b w w'' :=
  ⟨k.os.trans h.os, k.tape.trans h.tape, k.output.trans h.output, Nat.le_trans h.size k.size, fun i hi h1 h2 => (k.block i (Nat.lt_of_lt_of_le hi h.size) h1 h2).trans (h.block i hi h1 h2)⟩
theorem Kp.of_below (h : Below w.heap.size w w') : Kp p b w w' := ⟨h.os, h.tape, h.output, h.size, fun k hk _ _ => h.block k hk⟩
theorem Kp.below {B : Nat} (h : Kp p b w w') (hp : B ≤ p) (hb : B ≤ b) (hB : B ≤ w.heap.size) : Below B w w' :=
  ⟨h.os, h.tape, h.output, h.size, fun k hk => h.block k (by omega) (by omega) (by omega)⟩
theorem Kp.drew (w : World) : Kp p b w w.drew := ⟨rfl, rfl, rfl, Nat.le_refl _, fun _ _ _ _ => rfl⟩
theorem Kp.drewN (w : World) (n : Nat) : Kp p b w (w.drewN n) := ⟨rfl, rfl, rfl, Nat.le_refl _, fun _ _ _ _ => rfl⟩
theorem Kp.alloc (w : World) (o : Obj) : Kp p b w (w.alloc o) := .of_below ((Below.refl _ _).alloc (Nat.le_refl _) _)
theorem Kp.setP (w : World) (i : Nat) (v : Value) : Kp p b w (w.setCell ⟨p, i, none⟩ v) :=
  ⟨rfl, rfl, rfl, by simp [World.setCell], fun _ _ h _ => Below.heap_setCell _ _ _ _ h⟩
theorem Kp.turned (h : w.mapTurned w' b) : Kp p b w w' := by
  have g := h.grown
  exact ⟨g.os, g.tape, g.output, g.size, fun k hk _ h2 => g.block k hk (fun e => h2 (by injection e))⟩
theorem Kp.blk {g : Nat} {t : TypeId} {cs : Array Value} (h : Kp p b w w') (hb : Blk w g t cs) (h1 : g ≠ p) (h2 : g ≠ b) : Blk w' g t cs := (h.block g hb.lt h1 h2).trans hb
theorem Kp.cell (h : Kp p b w w') {a : Addr} (ha : a.block < w.heap.size) (h1 : a.block ≠ p) (h2 : a.block ≠ b) : w'.cell? a = w.cell? a := World.cell?_of_block (w := w) (h.block _ ha h1 h2)
theorem Kp.frozen (h : Kp p b w w') {a : Addr} (ha : a.block < w.heap.size) (h1 : a.block ≠ p) (h2 : a.block ≠ b) : w'.frozen? a = w.frozen? a := World.frozen?_of_block (w := w) (h.block _ ha h1 h2)
end

section
variable {w w' : World} {p b : Nat} {S : Dk} {L : List Fl}
theorem Own.lt (h : Own w b L) : b < w.heap.size := World.ownsMap.lt h
theorem Own.kept {row : Option Nat} (h : Own w b L) (hg : w.grownBy w' row) (hne : some b ≠ row) : Own w' b L := World.ownsMap.kept h hg hne
theorem Own.alloc (h : Own w b L) (o : Obj) : Own (w.alloc o) b L := World.ownsMap.alloc h o
theorem Own.block (h : Own w b L) (hh : w'.heap[b]? = w.heap[b]?) : Own w' b L := by
  obtain ⟨es, clock, hb, F, hs, hD⟩ := h
  exact ⟨es, clock, hh.trans hb, F, hs, hD⟩
theorem Own.far (h : Own w b L) {a : Addr} (ha : b ≠ a.block) (u : Value) : Own (w.setCell a u) b L := World.ownsMap.setCell h ha u
theorem Own.below {B : Nat} (h : Own w b L) (hb : Below B w w') (hB : b < B) : Own w' b L := h.block (hb.block b hB)
theorem DiskAt.ne (h : DiskAt w p b S) : p ≠ b := by
  rintro rfl
  obtain ⟨es, clock, hb, _⟩ := h.own
  have := h.blk
  unfold Blk at this
  rw [hb] at this
  cases this
theorem DiskAt.below {B : Nat} (h : DiskAt w p b S) (hb : Below B w w') (hp : p < B) (hB : b < B) : DiskAt w' p b S := ⟨(hb.block p hp).trans h.blk, h.own.below hb hB⟩
theorem DiskAt.belowS (h : DiskAt w p b S) (hb : Below w.heap.size w w') : DiskAt w' p b S := h.below hb h.blk.lt h.own.lt
theorem DiskAt.alloc (h : DiskAt w p b S) (o : Obj) : DiskAt (w.alloc o) p b S := ⟨h.blk.alloc o, h.own.alloc o⟩
theorem DiskAt.drew (h : DiskAt w p b S) : DiskAt w.drew p b S := ⟨h.blk, h.own⟩
theorem DiskAt.drewN (h : DiskAt w p b S) (n : Nat) : DiskAt (w.drewN n) p b S := ⟨h.blk, h.own⟩
theorem DiskAt.kp {p' b' : Nat} (h : DiskAt w p b S) (k : Kp p' b' w w') (h1 : p ≠ p') (h2 : p ≠ b') (h3 : b ≠ p') (h4 : b ≠ b') : DiskAt w' p b S :=
  ⟨k.blk h.blk h1 h2, h.own.block (k.block b h.own.lt h3 h4)⟩
theorem DiskAt.cells (h : DiskAt w p b S) : p < w.heap.size ∧ w.cell? ⟨p, 0, none⟩ = some (.map (some b)) ∧ w.cell? ⟨p, 1, none⟩ = some (.int .i64 S.lim) ∧ w.cell? ⟨p, 2, none⟩ = some (.int .i64 S.fuse) ∧
    w.cell? ⟨p, 3, none⟩ = some (.int .i64 S.used) ∧ w.cell? ⟨p, 4, none⟩ = some (.int .i64 S.ops) ∧ w.cell? ⟨p, 5, none⟩ = some (.int .i64 S.reads) ∧ w.cell? ⟨p, 6, none⟩ = some (.bool S.down) :=
  ⟨h.blk.lt, h.blk.cell 0, h.blk.cell 1, h.blk.cell 2, h.blk.cell 3, h.blk.cell 4, h.blk.cell 5, h.blk.cell 6⟩
end

section
variable {w w' : World} {p b : Nat} {S : Dk}
theorem DiskAt.set2 (h : DiskAt w p b S) (x : Int) : DiskAt (w.setCell ⟨p, 2, none⟩ (.int .i64 x)) p b { S with fuse := x } := ⟨h.blk.set_ 2 _, h.own.far (fun e => h.ne e.symm) _⟩
theorem DiskAt.set3 (h : DiskAt w p b S) (x : Int) : DiskAt (w.setCell ⟨p, 3, none⟩ (.int .i64 x)) p b { S with used := x } := ⟨h.blk.set_ 3 _, h.own.far (fun e => h.ne e.symm) _⟩
theorem DiskAt.set4 (h : DiskAt w p b S) (x : Int) : DiskAt (w.setCell ⟨p, 4, none⟩ (.int .i64 x)) p b { S with ops := x } := ⟨h.blk.set_ 4 _, h.own.far (fun e => h.ne e.symm) _⟩
theorem DiskAt.set5 (h : DiskAt w p b S) (x : Int) : DiskAt (w.setCell ⟨p, 5, none⟩ (.int .i64 x)) p b { S with reads := x } := ⟨h.blk.set_ 5 _, h.own.far (fun e => h.ne e.symm) _⟩
theorem DiskAt.set6 (h : DiskAt w p b S) (x : Bool) : DiskAt (w.setCell ⟨p, 6, none⟩ (.bool x)) p b { S with down := x } := ⟨h.blk.set_ 6 _, h.own.far (fun e => h.ne e.symm) _⟩
theorem DiskAt.turned {L' : List Fl} (h : DiskAt w p b S) (ho : Own w' b L') (ht : w.mapTurned w' b) : DiskAt w' p b { S with L := L' } :=
  ⟨((Kp.turned (p := b) ht).block p h.blk.lt h.ne h.ne).trans h.blk, ho⟩
end

/-! ### the map's laws, in the disk's words -/
theorem und_map : Try.prog.underlying 69 = some (.map 9 76) := by kernel_rfl
theorem und_string : Try.prog.underlying 9 = some .string := by kernel_rfl
theorem key_law : Keyed Try.prog 9 := string_keyed und_string
theorem zero_file (w : World) : (zeroValue 76).run Try.prog w = .ok (.agg #[.string ⟨#[]⟩, .int .i64 0]) w := by kernel_rfl
def flB : Option Fl → ByteArray
  | some f => f.s ++ f.l
  | none => ⟨#[]⟩
def flN : Option Fl → Nat
  | some f => f.s.size
  | none => 0
abbrev orV (o : Option Fl) : Value := .agg #[.string (flB o), .int .i64 (flN o : Nat)]
theorem key_of {n : ByteArray} (hn : n.size ≤ maxLen) : keyOf Try.prog 9 (.string n) = some (.string n.data.toList) := WideMaps.keyOf_string_mk und_string hn
theorem held_inj {a c : Value} (h : (DataW.held a : DataW Value) = .held c) : a = c := by injection h
theorem or_at (L : List Fl) (n : ByteArray) : (toD L).atKey (.string n.data.toList) (.held (orV none)) = .held (orV (lkF L n)) := by
  rw [atKey_toD]
  cases lkF L n <;> rfl
theorem held_or {L : List Fl} {n : ByteArray} {v : Value} {ps : List MemPlace} (hv : holdV v = some ((toD L).atKey (.string n.data.toList) (.held (orV none)), ps)) : v = orV (lkF L n) := by
  rw [or_at] at hv
  exact held_inj (congrArg Prod.fst (Option.some.inj hv))
section
variable {w : World} {b : Nat} {L : List Fl} {n : ByteArray}
theorem run_look (h : Own w b L) (hn : n.size ≤ maxLen) : (Instr.lookup 69 (.map (some b)) (.string n) false).run Try.prog w = .ok (orV (lkF L n)) w := by
  obtain ⟨v, ps, hr, hv⟩ := World.ownsMap.lookup h key_law und_map (zero_file w) (zd := .held (orV none)) (zp := []) rfl (key_of hn)
  rw [hr]
  have e : v = orV (lkF L n) := by
    exact held_or hv
  rw [e]
theorem run_look_ok (h : Own w b L) (hn : n.size ≤ maxLen) : (Instr.lookup 69 (.map (some b)) (.string n) true).run Try.prog w = .ok (.tuple #[orV (lkF L n), .bool (lkF L n).isSome]) w := by
  obtain ⟨v, ps, hr, hv⟩ := World.ownsMap.look_ok h key_law und_map (zero_file w) (zd := .held (orV none)) (zp := []) rfl (key_of hn)
  rw [hr]
  have e : v = orV (lkF L n) := by
    exact held_or hv
  rw [e, has_toD]
theorem own_of {w : World} {b m : Nat} {L : List Fl} (h : w.ownsMap Try.prog 9 holdV b m (toD L)) : Own w b L := by
  obtain ⟨es, clock, hb, F, _, hD⟩ := h
  refine ⟨es, clock, hb, F, ?_, hD⟩
  have : Maps.size (toD L) = es.size := by rw [hD]; exact length_read es
  rw [size_toD] at this
  omega
theorem run_put (h : Own w b L) (hl : L.length < maxLen) (f : Fl) (hf : f.n = n) (hn : n.size ≤ maxLen) :
    ∃ w', (Instr.mapUpdate 69 (.map (some b)) (.string n) (fileV f)).run Try.prog w = .ok () w' ∧ Own w' b (putF L f) ∧ w.mapTurned w' b := by
  obtain ⟨w', hr, ho, ht⟩ := World.ownsMap.store h key_law und_map hl (key_of hn) (d := .held (fileV f)) (ps := []) (val := fileV f) rfl
  refine ⟨w', hr, own_of (m := L.length + 1) ?_, ht⟩
  rw [← hf, put_toD] at ho; exact ho
theorem run_drop (h : Own w b L) (hn : n.size ≤ maxLen) (ty : TypeId) :
    ∃ w', (Builtin.delete_ #[69, 9] ty #[.map (some b), .string n]).run Try.prog w = .ok (.tuple #[]) w' ∧ Own w' b (wo L n) ∧ w.mapTurned w' b := by
  obtain ⟨w', hr, ho, ht⟩ := World.ownsMap.drop h key_law und_map (key_of hn) ty
  refine ⟨w', hr, own_of (m := L.length) ?_, ht⟩
  rw [del_toD] at ho; exact ho
end

section
variable {P : Program} (w : World) {ops : Array Oper} {rest : List Oper} {o : Oper} {a : Act} {Q : Exit → Act → World → Prop}
theorem wpList_look (hg : o.guard = none) (m x : Operand) (hop : o.op = Op.lookup 69 m x false) (b : Nat) (L : List Fl) (n : ByteArray)
    (hm : a.eval m = .map (some b)) (h : Own w b L) (hx : a.eval x = .string n) (hn : n.size ≤ maxLen) (hK : wpList Try.prog ops Q rest (a.put o.dst (orV (lkF L n))) w) : wpList Try.prog ops Q (o :: rest) a w := by
  refine wpList_plain hg fun K' hK' => ?_
  unfold Oper.wp
  simp [execOp, hop, hm, hx, run_look h hn, Result.andThen]
  exact hK' _ _ hK
theorem wpList_look_ok (hg : o.guard = none) (m x : Operand) (hop : o.op = Op.lookup 69 m x true) (b : Nat) (L : List Fl) (n : ByteArray)
    (hm : a.eval m = .map (some b)) (h : Own w b L) (hx : a.eval x = .string n) (hn : n.size ≤ maxLen) (hK : wpList Try.prog ops Q rest (a.put o.dst (.tuple #[orV (lkF L n), .bool (lkF L n).isSome])) w) : wpList Try.prog ops Q (o :: rest) a w := by
  refine wpList_plain hg fun K' hK' => ?_
  unfold Oper.wp
  simp [execOp, hop, hm, hx, run_look_ok h hn, Result.andThen]
  exact hK' _ _ hK
theorem wpList_putF (hg : o.guard = none) (m x v : Operand) (hop : o.op = Op.mapUpdate 69 m x v) (b : Nat) (L : List Fl) (n : ByteArray) (f : Fl)
    (hm : a.eval m = .map (some b)) (h : Own w b L) (hl : L.length < maxLen) (hx : a.eval x = .string n) (hv : a.eval v = fileV f) (hf : f.n = n) (hn : n.size ≤ maxLen)
    (hK : ∀ w', Own w' b (putF L f) → w.mapTurned w' b → wpList Try.prog ops Q rest (a.put o.dst undef) w') : wpList Try.prog ops Q (o :: rest) a w := by
  refine wpList_plain hg fun K' hK' => ?_
  obtain ⟨w', hr, h1, h2⟩ := run_put h hl f hf hn
  unfold Oper.wp
  simp [execOp, hop, hm, hx, hv, hr, Result.andThen]
  exact hK' _ _ (hK w' h1 h2)
theorem wpList_drop (hg : o.guard = none) (m x : Operand) (hop : o.op = Op.call { callee := Callee.builtin Builtin.delete, args := #[m, x], argTypes := #[69, 9] }) (b : Nat) (L : List Fl) (n : ByteArray)
    (hm : a.eval m = .map (some b)) (h : Own w b L) (hx : a.eval x = .string n) (hn : n.size ≤ maxLen)
    (hK : ∀ w', Own w' b (wo L n) → w.mapTurned w' b → wpList Try.prog ops Q rest (a.put o.dst (.tuple #[])) w') : wpList Try.prog ops Q (o :: rest) a w := by
  refine wpList_delete_own w hg m x _ _ hop _ key_law und_map holdV b L.length (toD L) hm h (.string n) (.string n.data.toList) hx (key_of hn) ?_
  intro w' h1 h2
  exact hK w' (own_of (by rw [del_toD] at h1; exact h1)) h2
end
end Go.Proofs.Ytgkphogefpmeaaa
