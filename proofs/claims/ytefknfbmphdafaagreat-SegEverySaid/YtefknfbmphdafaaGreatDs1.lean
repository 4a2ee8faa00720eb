/- What the log leans on: Ds1. -/
import Derived.Maps.OwnSet
import Derived.Sort.KeysCollected
import Derived.Test.YtefknfbmphdafaaGreatProg
import Derived.WalkKit
import Derived.WalkSpells
import Derived.WalkLawsBesides
import Derived.Lib.Hide
import Derived.Laws.Rows
import Derived.Deep.Draws
import Derived.StillTailTactics
import Derived.Deep.QuietTactic
import Derived.BigQuiet
import Derived.Deep.RegionHeld3
namespace Go.Proofs.YtefknfbmphdafaaGreat.Ds
open Go Go.Maps
namespace DkM

structure Fl where
  n : ByteArray
  s : ByteArray
  l : ByteArray

theorem ba_ext {a b : ByteArray} (h : a.data.toList = b.data.toList) : a = b := by
  cases a; cases b; simp at h; rw [h]
theorem sz_list (s : ByteArray) : s.size = s.data.toList.length := by show s.data.size = _; simp
theorem app_list (a b : ByteArray) : (a ++ b).data.toList = a.data.toList ++ b.data.toList := by simp [ByteArray.data_append]
theorem ext_list (x : ByteArray) (a b : Nat) : (x.extract a b).data.toList = (x.data.toList.take b).drop a := by
  rw [ByteArray.data_extract]
  simp [List.drop_take]
theorem app_size (a b : ByteArray) : (a ++ b).size = a.size + b.size := ByteArray.size_append
theorem ext_size (x : ByteArray) (a b : Nat) : (x.extract a b).size = min b x.size - a := ByteArray.size_extract

/-- The one name is the other one. -/
def eqN (a b : ByteArray) : Bool := a.data.toList == b.data.toList
theorem eqN_iff {a b : ByteArray} : eqN a b = true ↔ a = b := by
  unfold eqN; rw [beq_iff_eq]; exact ⟨ba_ext, fun h => by rw [h]⟩
theorem eqN_self (a : ByteArray) : eqN a a = true := eqN_iff.2 rfl
theorem eqN_no {a b : ByteArray} : eqN a b = false ↔ a ≠ b := by
  rw [← Bool.not_eq_true, eqN_iff]
def bf (a b : ByteArray) : Bool := bytesBefore a.data.toList b.data.toList
theorem bf_irr (a : ByteArray) : bf a a = false := WideAt.bytes_irrefl _
theorem bf_trans {a b c : ByteArray} (h : bf a b = true) (h' : bf b c = true) : bf a c = true := WideShapes.bytes_trans _ _ _ h h'
theorem bf_total {a b : ByteArray} (h : a ≠ b) : bf a b = true ∨ bf b a = true := WideAt.bytes_total _ _ (fun e => h (ba_ext e))
theorem bf_ne {a b : ByteArray} (h : bf a b = true) : a ≠ b := fun e => by rw [e, bf_irr] at h; cases h
theorem bf_asym {a b : ByteArray} (h : bf a b = true) : bf b a = false := by
  cases hb : bf b a
  · rfl
  · have := bf_trans h hb; rw [bf_irr] at this; cases this

def lkF (L : List Fl) (n : ByteArray) : Option Fl := L.find? fun f => eqN f.n n
def wo (L : List Fl) (n : ByteArray) : List Fl := L.filter fun f => !eqN f.n n
def insF (f : Fl) : List Fl → List Fl
  | [] => [f]
  | g :: r => if bf f.n g.n then f :: g :: r else g :: insF f r
def putF (L : List Fl) (f : Fl) : List Fl := insF f (wo L f.n)
def usd : List Fl → Nat
  | [] => 0
  | f :: r => f.s.size + f.l.size + usd r
def Rise (L : List Fl) : Prop := L.Pairwise fun f g => bf f.n g.n = true

def fileV (f : Fl) : Value := .agg #[.string (f.s ++ f.l), .int .i64 (f.s.size : Nat)]
def holdV (v : Value) : Option (DataW Value × List MemPlace) := some (.held v, [])
def pr (f : Fl) : Lit × DataW Value := (.string f.n.data.toList, .held (fileV f))
def toD (L : List Fl) : DataW Value := .map (L.map pr)

theorem atKey_toD (L : List Fl) (n : ByteArray) (z : DataW Value) : (toD L).atKey (.string n.data.toList) z = match lkF L n with | some f => .held (fileV f) | none => z := by
  unfold toD DataW.atKey lkF
  simp only [List.find?_map]
  have e : ((fun p : Lit × DataW Value => p.1.sameKey (.string n.data.toList)) ∘ pr) = fun f => eqN f.n n := rfl
  rw [e]
  cases L.find? (fun f => eqN f.n n) <;> rfl
theorem has_toD (L : List Fl) (n : ByteArray) : Maps.has (toD L) (.string n.data.toList) = (lkF L n).isSome := by
  show (L.map pr).any _ = _
  rw [List.any_map]
  have e : ((fun p : Lit × DataW Value => p.1.sameKey (.string n.data.toList)) ∘ pr) = fun f => eqN f.n n := rfl
  rw [e]
  unfold lkF
  rw [List.isSome_find?]
theorem wo_toD (L : List Fl) (n : ByteArray) : (L.map pr).filter (fun p => !p.1.sameKey (.string n.data.toList)) = (wo L n).map pr := by
  rw [List.filter_map]; rfl
theorem ins_toD (f : Fl) : ∀ L : List Fl, DataW.insert (pr f) (L.map pr) = (insF f L).map pr
  | [] => rfl
  | g :: r => by
    have e : DataW.insert (pr f) ((g :: r).map pr) = if bf f.n g.n then pr f :: pr g :: r.map pr else pr g :: DataW.insert (pr f) (r.map pr) := rfl
    have e2 : insF f (g :: r) = if bf f.n g.n then f :: g :: r else g :: insF f r := rfl
    rw [e, e2]
    split
    · rfl
    · rw [ins_toD f r]; rfl
theorem put_toD (L : List Fl) (f : Fl) : (toD L).put (.string f.n.data.toList) (.held (fileV f)) = toD (putF L f) := by
  show DataW.map (DataW.insert (pr f) ((L.map pr).filter _)) = _
  rw [wo_toD, ins_toD]; rfl
theorem del_toD (L : List Fl) (n : ByteArray) : (toD L).del (.string n.data.toList) = toD (wo L n) := by
  show DataW.map ((L.map pr).filter _) = _
  rw [wo_toD]; rfl
theorem size_toD (L : List Fl) : Maps.size (toD L) = L.length := by show (L.map pr).length = _; simp
theorem keys_toD (L : List Fl) : strKeys (toD L) = L.map (fun f => f.n.data.toList) := by
  show (L.map pr).map _ = _
  rw [List.map_map]; rfl

theorem bb_lt : ∀ {a b : List UInt8}, bytesBefore a b = true → a < b
  | [], [], h => by cases h
  | [], _ :: _, _ => List.Lex.nil
  | _ :: _, [], h => by cases h
  | x :: a, y :: b, h => by
    have e : bytesBefore (x :: a) (y :: b) = (decide (x < y) || (x == y && bytesBefore a b)) := rfl
    rw [e] at h
    simp only [Bool.or_eq_true, Bool.and_eq_true, decide_eq_true_eq, beq_iff_eq] at h
    rcases h with h | ⟨rfl, h⟩
    · exact List.Lex.rel h
    · exact List.Lex.cons (bb_lt h)
theorem sorted_keys {L : List Fl} (h : Rise L) {ss : List (List UInt8)} (hp : ss.Perm (L.map fun f => f.n.data.toList)) : ss.mergeSort leB = L.map fun f => f.n.data.toList := by
  rw [mergeSort_of_perm hp]
  refine List.mergeSort_of_pairwise ?_
  rw [List.pairwise_map]
  refine h.imp fun {f g} hfg => ?_
  simp only [leB, decide_eq_true_eq]
  exact List.le_of_lt (bb_lt hfg)

theorem lkF_some {L : List Fl} {n : ByteArray} {f : Fl} (h : lkF L n = some f) : f ∈ L ∧ f.n = n := by
  unfold lkF at h
  exact ⟨List.mem_of_find?_eq_some h, eqN_iff.1 (List.find?_some (p := fun f : Fl => eqN f.n n) h)⟩
theorem lkF_none {L : List Fl} {n : ByteArray} (h : lkF L n = none) : ∀ f ∈ L, f.n ≠ n := by
  unfold lkF at h
  intro f hf e
  have := List.find?_eq_none.1 h f hf
  rw [eqN_iff.2 e] at this
  exact this rfl
theorem lkF_mem {L : List Fl} (h : Rise L) {f : Fl} (hf : f ∈ L) : lkF L f.n = some f := by
  induction L with
  | nil => cases hf
  | cons g r ih =>
    obtain ⟨h1, h2⟩ := List.pairwise_cons.1 h
    unfold lkF
    rcases List.mem_cons.1 hf with rfl | hr
    · rw [List.find?_cons_of_pos (p := fun g : Fl => eqN g.n f.n) (eqN_self _)]
    · rw [List.find?_cons_of_neg (by rw [eqN_no.2 (bf_ne (h1 f hr))]; decide)]
      exact ih h2 hr
theorem mem_wo {L : List Fl} {n : ByteArray} {f : Fl} : f ∈ wo L n ↔ f ∈ L ∧ f.n ≠ n := by
  unfold wo
  rw [List.mem_filter, Bool.not_eq_true', eqN_no]
theorem mem_ins {f g : Fl} : ∀ {L : List Fl}, g ∈ insF f L ↔ g = f ∨ g ∈ L
  | [] => by simp [insF]
  | a :: r => by
    unfold insF
    split
    · simp
    · simp only [List.mem_cons, mem_ins (L := r)]
      constructor
      · rintro (h | h | h)
        · exact Or.inr (Or.inl h)
        · exact Or.inl h
        · exact Or.inr (Or.inr h)
      · rintro (h | h | h)
        · exact Or.inr (Or.inl h)
        · exact Or.inl h
        · exact Or.inr (Or.inr h)
theorem mem_put {L : List Fl} {f g : Fl} : g ∈ putF L f ↔ g = f ∨ (g ∈ L ∧ g.n ≠ f.n) := by
  unfold putF; rw [mem_ins, mem_wo]
theorem Rise.wo {L : List Fl} (h : Rise L) (n : ByteArray) : Rise (wo L n) := List.Pairwise.filter _ h
theorem Rise.ins {f : Fl} : ∀ {L : List Fl}, Rise L → (∀ g ∈ L, g.n ≠ f.n) → Rise (insF f L)
  | [], _, _ => by simp [insF, Rise]
  | a :: r, h, hn => by
    obtain ⟨h1, h2⟩ := List.pairwise_cons.1 h
    unfold insF
    split
    · rename_i hb
      refine List.pairwise_cons.2 ⟨fun g hg => ?_, h⟩
      rcases List.mem_cons.1 hg with rfl | hr
      · exact hb
      · exact bf_trans hb (h1 g hr)
    · rename_i hb
      have hab : bf a.n f.n = true := by
        rcases bf_total (hn a (by simp)) with h' | h'
        · exact h'
        · exact absurd h' hb
      refine List.pairwise_cons.2 ⟨fun g hg => ?_, Rise.ins h2 (fun g hg => hn g (by simp [hg]))⟩
      rcases mem_ins.1 hg with rfl | hr
      · exact hab
      · exact h1 g hr
theorem Rise.put {L : List Fl} (h : Rise L) (f : Fl) : Rise (putF L f) := Rise.ins (h.wo f.n) (fun _ hg => (mem_wo.1 hg).2)
/-- Two rows that rise, and have the same files, are one. -/
theorem rise_ext : ∀ {L M : List Fl}, Rise L → Rise M → (∀ f, f ∈ L ↔ f ∈ M) → L = M
  | [], [], _, _, _ => rfl
  | [], g :: r, _, _, h => by have := (h g).2 (by simp); cases this
  | f :: r, [], _, _, h => by have := (h f).1 (by simp); cases this
  | f :: r, g :: q, hL, hM, h => by
    obtain ⟨a1, a2⟩ := List.pairwise_cons.1 hL
    obtain ⟨b1, b2⟩ := List.pairwise_cons.1 hM
    have e : f = g := by
      rcases List.mem_cons.1 ((h f).1 (by simp)) with rfl | hf
      · rfl
      · rcases List.mem_cons.1 ((h g).2 (by simp)) with hg | hg
        · exact hg.symm
        · have x := bf_trans (a1 g hg) (b1 f hf)
          rw [bf_irr] at x; cases x
    subst e
    congr 1
    refine rise_ext a2 b2 fun x => ?_
    constructor
    · intro hx
      rcases List.mem_cons.1 ((h x).1 (by simp [hx])) with rfl | hx'
      · have := a1 x hx; rw [bf_irr] at this; cases this
      · exact hx'
    · intro hx
      rcases List.mem_cons.1 ((h x).2 (by simp [hx])) with rfl | hx'
      · have := b1 x hx; rw [bf_irr] at this; cases this
      · exact hx'
theorem lkF_put_same {L : List Fl} (h : Rise L) (f : Fl) : lkF (putF L f) f.n = some f := lkF_mem (h.put f) (mem_put.2 (Or.inl rfl))
theorem lkF_iff {L : List Fl} (h : Rise L) {n : ByteArray} {f : Fl} : lkF L n = some f ↔ f ∈ L ∧ f.n = n :=
  ⟨lkF_some, fun ⟨h1, h2⟩ => by subst h2; exact lkF_mem h h1⟩
theorem lkF_eq_none {L : List Fl} {n : ByteArray} : lkF L n = none ↔ ∀ f ∈ L, f.n ≠ n :=
  ⟨lkF_none, fun h => by
    unfold lkF
    rw [List.find?_eq_none]
    intro f hf
    rw [eqN_no.2 (h f hf)]
    decide⟩
theorem lkF_put_other {L : List Fl} (h : Rise L) (f : Fl) {n : ByteArray} (hn : n ≠ f.n) : lkF (putF L f) n = lkF L n := by
  cases hl : lkF L n with
  | none =>
    rw [lkF_eq_none] at hl ⊢
    intro g hg
    rcases mem_put.1 hg with rfl | ⟨hg, _⟩
    · exact fun e => hn e.symm
    · exact hl g hg
  | some g =>
    obtain ⟨h1, h2⟩ := lkF_some hl
    rw [lkF_iff (h.put f)]
    exact ⟨mem_put.2 (Or.inr ⟨h1, by rw [h2]; exact hn⟩), h2⟩
theorem lkF_wo_same {L : List Fl} (n : ByteArray) : lkF (wo L n) n = none := lkF_eq_none.2 fun _ hf => (mem_wo.1 hf).2
theorem lkF_wo_other {L : List Fl} (h : Rise L) {n m : ByteArray} (hn : n ≠ m) : lkF (wo L m) n = lkF L n := by
  cases hl : lkF L n with
  | none =>
    rw [lkF_eq_none] at hl ⊢
    intro g hg
    exact hl g (mem_wo.1 hg).1
  | some g =>
    obtain ⟨h1, h2⟩ := lkF_some hl
    rw [lkF_iff (h.wo m)]
    exact ⟨mem_wo.2 ⟨h1, by rw [h2]; exact hn⟩, h2⟩

def flS : Option Fl → Nat
  | some f => f.s.size + f.l.size
  | none => 0
theorem usd_wo {L : List Fl} (h : Rise L) (n : ByteArray) : usd (wo L n) + flS (lkF L n) = usd L := by
  induction L with
  | nil => rfl
  | cons g r ih =>
    obtain ⟨h1, h2⟩ := List.pairwise_cons.1 h
    have ih := ih h2
    by_cases e : g.n = n
    · subst e
      have hr : lkF r g.n = none := lkF_eq_none.2 fun f hf he => bf_ne (h1 f hf) he.symm
      rw [hr] at ih
      have hw : wo (g :: r) g.n = wo r g.n := by
        unfold wo; rw [List.filter_cons_of_neg (by rw [eqN_self]; decide)]
      rw [lkF_mem h (by simp), hw]
      simp only [usd, flS]
      simp only [flS] at ih
      omega
    · have hw : wo (g :: r) n = g :: wo r n := by
        unfold wo; rw [List.filter_cons_of_pos (by rw [eqN_no.2 e]; rfl)]
      have hl : lkF (g :: r) n = lkF r n := by
        unfold lkF; rw [List.find?_cons_of_neg (by rw [eqN_no.2 e]; decide)]
      rw [hw, hl]
      simp only [usd]
      omega
theorem usd_ins (f : Fl) : ∀ L : List Fl, usd (insF f L) = f.s.size + f.l.size + usd L
  | [] => rfl
  | g :: r => by
    unfold insF
    split
    · rfl
    · simp only [usd, usd_ins f r]; omega
theorem usd_put {L : List Fl} (h : Rise L) (f : Fl) : usd (putF L f) + flS (lkF L f.n) = usd L + f.s.size + f.l.size := by
  unfold putF
  rw [usd_ins]
  have := usd_wo h f.n
  omega
theorem len_ins (f : Fl) : ∀ L : List Fl, (insF f L).length = L.length + 1
  | [] => rfl
  | g :: r => by
    unfold insF
    split
    · rfl
    · simp [len_ins f r]
theorem len_wo (L : List Fl) (n : ByteArray) : (wo L n).length ≤ L.length := List.length_filter_le _ _
theorem len_put (L : List Fl) (f : Fl) : (putF L f).length ≤ L.length + 1 := by
  unfold putF; rw [len_ins]; have := len_wo L f.n; omega
theorem usd_le {L : List Fl} {f : Fl} (h : f ∈ L) : f.s.size + f.l.size ≤ usd L := by
  induction L with
  | nil => cases h
  | cons g r ih =>
    rcases List.mem_cons.1 h with rfl | hr
    · simp only [usd]; omega
    · have := ih hr; simp only [usd]; omega
/-- A file in place of one of its name, where this one stands. -/
theorem put_at {A B : List Fl} {f g : Fl} (h : Rise (A ++ f :: B)) (hn : g.n = f.n) : putF (A ++ f :: B) g = A ++ g :: B := by
  have hR : Rise (A ++ g :: B) := by
    unfold Rise at h ⊢
    rw [List.pairwise_append, List.pairwise_cons] at h ⊢
    obtain ⟨h1, ⟨h2, h3⟩, h4⟩ := h
    refine ⟨h1, ⟨fun x hx => by rw [hn]; exact h2 x hx, h3⟩, fun a ha b hb => ?_⟩
    rcases List.mem_cons.1 hb with rfl | hb
    · rw [hn]; exact h4 a ha f (by simp)
    · exact h4 a ha b (by simp [hb])
  refine rise_ext (h.put g) hR fun x => ?_
  rw [mem_put]
  simp only [List.mem_append, List.mem_cons]
  unfold Rise at h
  rw [List.pairwise_append, List.pairwise_cons] at h
  obtain ⟨_, ⟨h2, _⟩, h4⟩ := h
  constructor
  · rintro (rfl | ⟨h' | rfl | h', hne⟩)
    · exact Or.inr (Or.inl rfl)
    · exact Or.inl h'
    · exact absurd hn.symm hne
    · exact Or.inr (Or.inr h')
  · rintro (h' | rfl | h')
    · exact Or.inr ⟨Or.inl h', by rw [hn]; exact bf_ne (h4 x h' f (by simp))⟩
    · exact Or.inl rfl
    · exact Or.inr ⟨Or.inr (Or.inr h'), by rw [hn]; exact fun e => bf_ne (h2 x h') e.symm⟩
end DkM
end Go.Proofs.YtefknfbmphdafaaGreat.Ds
namespace Go.Proofs.YtefknfbmphdafaaGreat.Ds
open Go.RowKit Go.Maps DkM

theorem ret_int {k : IntKind} {a b : Int} (h : a = b) : Ending.returned (.int k a) = .returned (.int k b) := by rw [h]
theorem ret_bool {a b : Bool} (h : a = b) : Ending.returned (.bool a) = .returned (.bool b) := by rw [h]
theorem int_eq {k : IntKind} {a b : Int} (h : a = b) : Value.int k a = .int k b := by rw [h]

def Blk (w : World) (g : Nat) (t : TypeId) (cs : Array Value) : Prop := w.heap[g]? = some (.cells cs t (0, 0))
section
variable {w w' : World} {g : Nat} {t : TypeId} {cs : Array Value}
theorem Blk.lt (h : Blk w g t cs) : g < w.heap.size := by
  rcases Nat.lt_or_ge g w.heap.size with hlt | hge
  · exact hlt
  · unfold Blk at h; rw [Array.getElem?_eq_none hge] at h; cases h
theorem Blk.cell (h : Blk w g t cs) (i : Nat) : w.cell? ⟨g, i, none⟩ = cs[i]? := cell_of_row w g i cs t (0, 0) h
theorem Blk.frozen (h : Blk w g t cs) (i : Nat) : w.frozen? ⟨g, i, none⟩ = false := by
  unfold Blk at h
  simp [World.frozen?, h]
theorem Blk.new (w : World) (t : TypeId) (cs : Array Value) : Blk (w.alloc (.cells cs t)) w.heap.size t cs := heap_alloc_new w _
theorem Blk.alloc (h : Blk w g t cs) (o : Obj) : Blk (w.alloc o) g t cs := (Below.heap_alloc w o g h.lt).trans h
theorem Blk.set_ (h : Blk w g t cs) (i : Nat) (u : Value) : Blk (w.setCell ⟨g, i, none⟩ u) g t (cs.setIfInBounds i u) := by
  unfold Blk at h ⊢
  simp [World.setCell, Array.getElem?_modify, h]
theorem Blk.far (h : Blk w g t cs) {p : Addr} (hp : g ≠ p.block) (u : Value) : Blk (w.setCell p u) g t cs := (Below.heap_setCell w p u g hp).trans h
end

structure Dk where
  L : List Fl
  lim : Int
  fuse : Int
  used : Int
  ops : Int
  reads : Int
  down : Bool
def dkC (b : Nat) (S : Dk) : Array Value := #[.map (some b), .int .i64 S.lim, .int .i64 S.fuse, .int .i64 S.used, .int .i64 S.ops, .int .i64 S.reads, .bool S.down]
def Own (w : World) (b : Nat) (L : List Fl) : Prop := w.ownsMap Tryz.prog 9 holdV b L.length (toD L)
structure DiskAt (w : World) (p b : Nat) (S : Dk) : Prop where
  blk : Blk w p 103 (dkC b S)
  own : Own w b S.L

/-- What may have turned: two blocks, and what is new. -/
structure Kp (p b : Nat) (w w' : World) : Prop where
  os : w'.os = w.os
  tape : w'.tape = w.tape
  output : w'.output = w.output
  size : w.heap.size ≤ w'.heap.size
  block : ∀ k, k < w.heap.size → k ≠ p → k ≠ b → w'.heap[k]? = w.heap[k]?
section
variable {p b : Nat} {w w' w'' : World}
theorem Kp.refl (p b : Nat) (w : World) : Kp p b w w := ⟨rfl, rfl, rfl, Nat.le_refl _, fun _ _ _ _ => rfl⟩
theorem Kp.trans (h : Kp p b w w') (k : Kp p b w' w'') : Kp p b w w'' :=
  ⟨k.os.trans h.os, k.tape.trans h.tape, k.output.trans h.output, Nat.le_trans h.size k.size, fun i hi h1 h2 => (k.block i (Nat.lt_of_lt_of_le hi h.size) h1 h2).trans (h.block i hi h1 h2)⟩
theorem Kp.of_below (h : Below w.heap.size w w') : Kp p b w w' := ⟨h.os, h.tape, h.output, h.size, fun k hk _ _ => h.block k hk⟩
theorem Kp.below {B : Nat} (h : Kp p b w w') (hp : B ≤ p) (hb : B ≤ b) (hB : B ≤ w.heap.size) : Below B w w' :=
  ⟨h.os, h.tape, h.output, h.size, fun k hk => h.block k (by omega) (by omega) (by omega)⟩
theorem Kp.drew (w : World) : Kp p b w w.drew := ⟨rfl, rfl, rfl, Nat.le_refl _, fun _ _ _ _ => rfl⟩
theorem Kp.drewN (w : World) (n : Nat) : Kp p b w (w.drewN n) := ⟨rfl, rfl, rfl, Nat.le_refl _, fun _ _ _ _ => rfl⟩
theorem Kp.alloc (w : World) (o : Obj) : Kp p b w (w.alloc o) := .of_below ((Below.refl _ _).alloc (Nat.le_refl _) _)
theorem Kp.setP (w : World) (i : Nat) (v : Value) : Kp p b w (w.setCell ⟨p, i, none⟩ v) :=
  ⟨rfl, rfl, rfl, by simp [World.setCell], fun _ _ h _ => Below.heap_setCell _ _ _ _ h⟩
theorem Kp.turned (h : w.mapTurned w' b) : Kp p b w w' := by
  have g := h.grown
  exact ⟨g.os, g.tape, g.output, g.size, fun k hk _ h2 => g.block k hk (fun e => h2 (by injection e))⟩
theorem Kp.blk {g : Nat} {t : TypeId} {cs : Array Value} (h : Kp p b w w') (hb : Blk w g t cs) (h1 : g ≠ p) (h2 : g ≠ b) : Blk w' g t cs := (h.block g hb.lt h1 h2).trans hb
theorem Kp.cell (h : Kp p b w w') {a : Addr} (ha : a.block < w.heap.size) (h1 : a.block ≠ p) (h2 : a.block ≠ b) : w'.cell? a = w.cell? a := World.cell?_of_block (w := w) (h.block _ ha h1 h2)
theorem Kp.frozen (h : Kp p b w w') {a : Addr} (ha : a.block < w.heap.size) (h1 : a.block ≠ p) (h2 : a.block ≠ b) : w'.frozen? a = w.frozen? a := World.frozen?_of_block (w := w) (h.block _ ha h1 h2)
end

section
variable {w w' : World} {p b : Nat} {S : Dk} {L : List Fl}
theorem Own.lt (h : Own w b L) : b < w.heap.size := World.ownsMap.lt h
theorem Own.kept {row : Option Nat} (h : Own w b L) (hg : w.grownBy w' row) (hne : some b ≠ row) : Own w' b L := World.ownsMap.kept h hg hne
theorem Own.alloc (h : Own w b L) (o : Obj) : Own (w.alloc o) b L := World.ownsMap.alloc h o
theorem Own.block (h : Own w b L) (hh : w'.heap[b]? = w.heap[b]?) : Own w' b L := by
  obtain ⟨es, clock, hb, F, hs, hD⟩ := h
  exact ⟨es, clock, hh.trans hb, F, hs, hD⟩
theorem Own.far (h : Own w b L) {a : Addr} (ha : b ≠ a.block) (u : Value) : Own (w.setCell a u) b L := World.ownsMap.setCell h ha u
theorem Own.below {B : Nat} (h : Own w b L) (hb : Below B w w') (hB : b < B) : Own w' b L := h.block (hb.block b hB)
theorem DiskAt.ne (h : DiskAt w p b S) : p ≠ b := by
  rintro rfl
  obtain ⟨es, clock, hb, _⟩ := h.own
  have := h.blk
  unfold Blk at this
  rw [hb] at this
  cases this
theorem DiskAt.below {B : Nat} (h : DiskAt w p b S) (hb : Below B w w') (hp : p < B) (hB : b < B) : DiskAt w' p b S := ⟨(hb.block p hp).trans h.blk, h.own.below hb hB⟩
theorem DiskAt.belowS (h : DiskAt w p b S) (hb : Below w.heap.size w w') : DiskAt w' p b S := h.below hb h.blk.lt h.own.lt
theorem DiskAt.alloc (h : DiskAt w p b S) (o : Obj) : DiskAt (w.alloc o) p b S := ⟨h.blk.alloc o, h.own.alloc o⟩
theorem DiskAt.drew (h : DiskAt w p b S) : DiskAt w.drew p b S := ⟨h.blk, h.own⟩
theorem DiskAt.drewN (h : DiskAt w p b S) (n : Nat) : DiskAt (w.drewN n) p b S := ⟨h.blk, h.own⟩
theorem DiskAt.kp {p' b' : Nat} (h : DiskAt w p b S) (k : Kp p' b' w w') (h1 : p ≠ p') (h2 : p ≠ b') (h3 : b ≠ p') (h4 : b ≠ b') : DiskAt w' p b S :=
  ⟨k.blk h.blk h1 h2, h.own.block (k.block b h.own.lt h3 h4)⟩
theorem DiskAt.cells (h : DiskAt w p b S) : p < w.heap.size ∧ w.cell? ⟨p, 0, none⟩ = some (.map (some b)) ∧ w.cell? ⟨p, 1, none⟩ = some (.int .i64 S.lim) ∧ w.cell? ⟨p, 2, none⟩ = some (.int .i64 S.fuse) ∧
    w.cell? ⟨p, 3, none⟩ = some (.int .i64 S.used) ∧ w.cell? ⟨p, 4, none⟩ = some (.int .i64 S.ops) ∧ w.cell? ⟨p, 5, none⟩ = some (.int .i64 S.reads) ∧ w.cell? ⟨p, 6, none⟩ = some (.bool S.down) :=
  ⟨h.blk.lt, h.blk.cell 0, h.blk.cell 1, h.blk.cell 2, h.blk.cell 3, h.blk.cell 4, h.blk.cell 5, h.blk.cell 6⟩
end

section
variable {w w' : World} {p b : Nat} {S : Dk}
theorem DiskAt.set2 (h : DiskAt w p b S) (x : Int) : DiskAt (w.setCell ⟨p, 2, none⟩ (.int .i64 x)) p b { S with fuse := x } := ⟨h.blk.set_ 2 _, h.own.far (fun e => h.ne e.symm) _⟩
theorem DiskAt.set3 (h : DiskAt w p b S) (x : Int) : DiskAt (w.setCell ⟨p, 3, none⟩ (.int .i64 x)) p b { S with used := x } := ⟨h.blk.set_ 3 _, h.own.far (fun e => h.ne e.symm) _⟩
theorem DiskAt.set4 (h : DiskAt w p b S) (x : Int) : DiskAt (w.setCell ⟨p, 4, none⟩ (.int .i64 x)) p b { S with ops := x } := ⟨h.blk.set_ 4 _, h.own.far (fun e => h.ne e.symm) _⟩
theorem DiskAt.set5 (h : DiskAt w p b S) (x : Int) : DiskAt (w.setCell ⟨p, 5, none⟩ (.int .i64 x)) p b { S with reads := x } := ⟨h.blk.set_ 5 _, h.own.far (fun e => h.ne e.symm) _⟩
theorem DiskAt.set6 (h : DiskAt w p b S) (x : Bool) : DiskAt (w.setCell ⟨p, 6, none⟩ (.bool x)) p b { S with down := x } := ⟨h.blk.set_ 6 _, h.own.far (fun e => h.ne e.symm) _⟩
theorem DiskAt.turned {L' : List Fl} (h : DiskAt w p b S) (ho : Own w' b L') (ht : w.mapTurned w' b) : DiskAt w' p b { S with L := L' } :=
  ⟨((Kp.turned (p := b) ht).block p h.blk.lt h.ne h.ne).trans h.blk, ho⟩
end

theorem und_map : Tryz.prog.underlying 99 = some (.map 9 101) := by kernel_rfl
theorem und_string : Tryz.prog.underlying 9 = some .string := by kernel_rfl
theorem key_law : Keyed Tryz.prog 9 := string_keyed und_string
theorem zero_file (w : World) : (zeroValue 101).run Tryz.prog w = .ok (.agg #[.string ⟨#[]⟩, .int .i64 0]) w := by kernel_rfl
def flB : Option Fl → ByteArray
  | some f => f.s ++ f.l
  | none => ⟨#[]⟩
def flN : Option Fl → Nat
  | some f => f.s.size
  | none => 0
abbrev orV (o : Option Fl) : Value := .agg #[.string (flB o), .int .i64 (flN o : Nat)]
theorem key_of {n : ByteArray} (hn : n.size ≤ maxLen) : keyOf Tryz.prog 9 (.string n) = some (.string n.data.toList) := WideMaps.keyOf_string_mk und_string hn
theorem held_inj {a c : Value} (h : (DataW.held a : DataW Value) = .held c) : a = c := by injection h
theorem or_at (L : List Fl) (n : ByteArray) : (toD L).atKey (.string n.data.toList) (.held (orV none)) = .held (orV (lkF L n)) := by
  rw [atKey_toD]
  cases lkF L n <;> rfl
theorem held_or {L : List Fl} {n : ByteArray} {v : Value} {ps : List MemPlace} (hv : holdV v = some ((toD L).atKey (.string n.data.toList) (.held (orV none)), ps)) : v = orV (lkF L n) := by
  rw [or_at] at hv
  exact held_inj (congrArg Prod.fst (Option.some.inj hv))
section
variable {w : World} {b : Nat} {L : List Fl} {n : ByteArray}
theorem run_look (h : Own w b L) (hn : n.size ≤ maxLen) : (Instr.lookup 99 (.map (some b)) (.string n) false).run Tryz.prog w = .ok (orV (lkF L n)) w := by
  obtain ⟨v, ps, hr, hv⟩ := World.ownsMap.lookup h key_law und_map (zero_file w) (zd := .held (orV none)) (zp := []) rfl (key_of hn)
  rw [hr]
  have e : v = orV (lkF L n) := by
    exact held_or hv
  rw [e]
theorem run_look_ok (h : Own w b L) (hn : n.size ≤ maxLen) : (Instr.lookup 99 (.map (some b)) (.string n) true).run Tryz.prog w = .ok (.tuple #[orV (lkF L n), .bool (lkF L n).isSome]) w := by
  obtain ⟨v, ps, hr, hv⟩ := World.ownsMap.look_ok h key_law und_map (zero_file w) (zd := .held (orV none)) (zp := []) rfl (key_of hn)
  rw [hr]
  have e : v = orV (lkF L n) := by
    exact held_or hv
  rw [e, has_toD]
theorem own_of {w : World} {b m : Nat} {L : List Fl} (h : w.ownsMap Tryz.prog 9 holdV b m (toD L)) : Own w b L := by
  obtain ⟨es, clock, hb, F, _, hD⟩ := h
  refine ⟨es, clock, hb, F, ?_, hD⟩
  have : Maps.size (toD L) = es.size := by rw [hD]; exact length_read es
  rw [size_toD] at this
  omega
theorem run_put (h : Own w b L) (hl : L.length < maxLen) (f : Fl) (hf : f.n = n) (hn : n.size ≤ maxLen) :
    ∃ w', (Instr.mapUpdate 99 (.map (some b)) (.string n) (fileV f)).run Tryz.prog w = .ok () w' ∧ Own w' b (putF L f) ∧ w.mapTurned w' b := by
  obtain ⟨w', hr, ho, ht⟩ := World.ownsMap.store h key_law und_map hl (key_of hn) (d := .held (fileV f)) (ps := []) (val := fileV f) rfl
  refine ⟨w', hr, own_of (m := L.length + 1) ?_, ht⟩
  rw [← hf, put_toD] at ho; exact ho
theorem run_drop (h : Own w b L) (hn : n.size ≤ maxLen) (ty : TypeId) :
    ∃ w', (Builtin.delete_ #[99, 9] ty #[.map (some b), .string n]).run Tryz.prog w = .ok (.tuple #[]) w' ∧ Own w' b (wo L n) ∧ w.mapTurned w' b := by
  obtain ⟨w', hr, ho, ht⟩ := World.ownsMap.drop h key_law und_map (key_of hn) ty
  refine ⟨w', hr, own_of (m := L.length) ?_, ht⟩
  rw [del_toD] at ho; exact ho
end

section
variable {P : Program} (w : World) {ops : Array Oper} {rest : List Oper} {o : Oper} {a : Act} {Q : Exit → Act → World → Prop}
theorem wpList_look (hg : o.guard = none) (m x : Operand) (hop : o.op = Op.lookup 99 m x false) (b : Nat) (L : List Fl) (n : ByteArray)
    (hm : a.eval m = .map (some b)) (h : Own w b L) (hx : a.eval x = .string n) (hn : n.size ≤ maxLen) (hK : wpList Tryz.prog ops Q rest (a.put o.dst (orV (lkF L n))) w) : wpList Tryz.prog ops Q (o :: rest) a w := by
  refine wpList_plain hg fun K' hK' => ?_
  unfold Oper.wp
  simp [execOp, hop, hm, hx, run_look h hn, Result.andThen]
  exact hK' _ _ hK
theorem wpList_look_ok (hg : o.guard = none) (m x : Operand) (hop : o.op = Op.lookup 99 m x true) (b : Nat) (L : List Fl) (n : ByteArray)
    (hm : a.eval m = .map (some b)) (h : Own w b L) (hx : a.eval x = .string n) (hn : n.size ≤ maxLen) (hK : wpList Tryz.prog ops Q rest (a.put o.dst (.tuple #[orV (lkF L n), .bool (lkF L n).isSome])) w) : wpList Tryz.prog ops Q (o :: rest) a w := by
  refine wpList_plain hg fun K' hK' => ?_
  unfold Oper.wp
  simp [execOp, hop, hm, hx, run_look_ok h hn, Result.andThen]
  exact hK' _ _ hK
theorem wpList_putF (hg : o.guard = none) (m x v : Operand) (hop : o.op = Op.mapUpdate 99 m x v) (b : Nat) (L : List Fl) (n : ByteArray) (f : Fl)
    (hm : a.eval m = .map (some b)) (h : Own w b L) (hl : L.length < maxLen) (hx : a.eval x = .string n) (hv : a.eval v = fileV f) (hf : f.n = n) (hn : n.size ≤ maxLen)
    (hK : ∀ w', Own w' b (putF L f) → w.mapTurned w' b → wpList Tryz.prog ops Q rest (a.put o.dst undef) w') : wpList Tryz.prog ops Q (o :: rest) a w := by
  refine wpList_plain hg fun K' hK' => ?_
  obtain ⟨w', hr, h1, h2⟩ := run_put h hl f hf hn
  unfold Oper.wp
  simp [execOp, hop, hm, hx, hv, hr, Result.andThen]
  exact hK' _ _ (hK w' h1 h2)
theorem wpList_drop (hg : o.guard = none) (m x : Operand) (hop : o.op = Op.call { callee := Callee.builtin Builtin.delete, args := #[m, x], argTypes := #[99, 9] }) (b : Nat) (L : List Fl) (n : ByteArray)
    (hm : a.eval m = .map (some b)) (h : Own w b L) (hx : a.eval x = .string n) (hn : n.size ≤ maxLen)
    (hK : ∀ w', Own w' b (wo L n) → w.mapTurned w' b → wpList Tryz.prog ops Q rest (a.put o.dst (.tuple #[])) w') : wpList Tryz.prog ops Q (o :: rest) a w := by
  refine wpList_delete_own w hg m x _ _ hop _ key_law und_map holdV b L.length (toD L) hm h (.string n) (.string n.data.toList) hx (key_of hn) ?_
  intro w' h1 h2
  exact hK w' (own_of (by rw [del_toD] at h1; exact h1)) h2
end
end Go.Proofs.YtefknfbmphdafaaGreat.Ds
namespace Go.Proofs.YtefknfbmphdafaaGreat.Ds
open Go.RowKit Go.Maps DkM

def thr (L : List Fl) (n : ByteArray) : Nat := if (lkF L n).isSome then 0 else 51
section
variable {w : World} {p b : Nat} {S : Dk}

set_option maxHeartbeats 400000 in
theorem reads_any (h : DiskAt w p b S) : Calls Tryz.prog 25 #[.pointer (some ⟨p, 0, none⟩)] w fun e w' => e = .returned (.int .i64 S.reads) ∧ w = w' := by
  obtain ⟨lt, c0, c1, c2, c3, c4, c5, c6⟩ := h.cells
  clear h
  go_enter Tryz.func25, Tryz.ntmps25
  go_wp2
  go_ret
  exact ⟨rfl, rfl⟩

set_option maxHeartbeats 400000 in
theorem setFuse_any (h : DiskAt w p b S) (n : Int) : Calls Tryz.prog 20 #[.pointer (some ⟨p, 0, none⟩), .int .i64 n] w fun e w' => e = .returned (.tuple #[]) ∧ DiskAt w' p b { S with fuse := max n (-1) } ∧ Kp p b w w' := by
  obtain ⟨lt, c0, c1, c2, c3, c4, c5, c6⟩ := h.cells
  have f2 := h.blk.frozen 2
  have H := Lib.hid h
  clear h
  go_enter Tryz.func20, Tryz.ntmps20
  go_wp2
  all_goals
    go_end0
    refine ⟨rfl, ?_, Kp.setP _ _ _⟩
    first
      | (have e : max n (-1) = n := by omega
         rw [e]; exact H.out.set2 _)
      | (have e : max n (-1) = -1 := by omega
         rw [e]; exact H.out.set2 _)

set_option maxHeartbeats 400000 in
theorem there_any (h : DiskAt w p b S) {n : ByteArray} (hn : n.size ≤ maxLen) :
    Calls Tryz.prog 48 #[.pointer (some ⟨p, 0, none⟩), .string n] w fun e w' => e = .returned (.int .i64 (thr S.L n : Nat)) ∧ Below w.heap.size w w' := by
  obtain ⟨lt, c0, c1, c2, c3, c4, c5, c6⟩ := h.cells
  have ho := h.own
  clear h c1 c2 c3 c4 c5 c6
  generalize S.L = L at *
  cases hB : (lkF L n).isSome with
  | true =>
    have HT := Lib.hid (show thr L n = 0 by unfold thr; rw [hB]; rfl)
    have HB := Lib.hid hB
    clear hB
    go_enter Tryz.func48, Tryz.ntmps48
    go_wp2_with (at_lookup; refine wpList_look_ok _ rfl _ _ rfl b L n rfl ho rfl hn ?_; rw [HB.out])
    go_ret
    exact ⟨by rw [HT.out]; rfl, (Below.refl _ _).alloc (Nat.le_refl _) _⟩
  | false =>
    have HT := Lib.hid (show thr L n = 51 by unfold thr; rw [hB]; rfl)
    have HB := Lib.hid hB
    clear hB
    go_enter Tryz.func48, Tryz.ntmps48
    go_wp2_with (at_lookup; refine wpList_look_ok _ rfl _ _ rfl b L n rfl ho rfl hn ?_; rw [HB.out])
    go_ret
    exact ⟨by rw [HT.out]; rfl, (Below.refl _ _).alloc (Nat.le_refl _) _⟩

set_option maxHeartbeats 400000 in
theorem size_any (h : DiskAt w p b S) {n : ByteArray} (hn : n.size ≤ maxLen) :
    Calls Tryz.prog 56 #[.pointer (some ⟨p, 0, none⟩), .string n] w fun e w' => e = .returned (.tuple #[.int .i64 ((flB (lkF S.L n)).size : Nat), .bool (lkF S.L n).isSome]) ∧ Below w.heap.size w w' := by
  obtain ⟨lt, c0, c1, c2, c3, c4, c5, c6⟩ := h.cells
  have ho := h.own
  clear h c1 c2 c3 c4 c5 c6
  generalize S.L = L at *
  go_enter Tryz.func56, Tryz.ntmps56
  go_wp2_with (at_lookup; refine wpList_look_ok _ rfl _ _ rfl b L n rfl ho rfl hn ?_)
  go_ret2
  exact ⟨rfl, (Below.refl _ _).alloc (Nat.le_refl _) _⟩

end

def clampI (x lo hi : Int) : Int := min (max x lo) hi
def newS (lim : Int) : Dk := { L := [], lim := min (max lim 0) 1073741824, fuse := -1, used := 0, ops := 0, reads := 0, down := false }
theorem new_at (w : World) (v : Int) : DiskAt ((w.alloc (.map #[] 0)).alloc (.cells #[.map (some w.heap.size), .int .i64 v, .int .i64 (-1), .int .i64 0, .int .i64 0, .int .i64 0, .bool false] 103)) (w.heap.size + 1) w.heap.size { newS 0 with lim := v } := by
  refine ⟨?_, Own.alloc (own_of (World.ownsMap_made _ _ _ _)) _⟩
  have := Blk.new (w.alloc (.map #[] 0)) 103 #[.map (some w.heap.size), .int .i64 v, .int .i64 (-1), .int .i64 0, .int .i64 0, .int .i64 0, .bool false]
  rw [show (w.alloc (.map #[] 0)).heap.size = w.heap.size + 1 by simp] at this
  exact this
theorem new_eq {lim v : Int} (h : min (max lim 0) 1073741824 = v) : newS lim = { newS 0 with lim := v } := by subst h; rfl
theorem below_two (w : World) (a c : Obj) : Below w.heap.size w ((w.alloc a).alloc c) := ((Below.refl _ _).alloc (Nat.le_refl _) _).alloc (by simp) _
set_option maxHeartbeats 400000 in
theorem new_any (lim : Int) (w : World) :
    Calls Tryz.prog 27 #[.int .i64 lim] w fun e w' => e = .returned (.pointer (some ⟨w.heap.size + 1, 0, none⟩)) ∧ DiskAt w' (w.heap.size + 1) w.heap.size (newS lim) ∧ Below w.heap.size w w' := by
  have hmm := @run_makeMap Tryz.prog
  go_enter Tryz.func27, Tryz.ntmps27
  go_wp2
  all_goals
    go_ret
    refine ⟨rfl, ?_, below_two _ _ _⟩
    first
      | (rw [new_eq (lim := lim) (v := lim) (by omega)]; exact new_at _ _)
      | (rw [new_eq (lim := lim) (v := 0) (by omega)]; exact new_at _ _)
      | (rw [new_eq (lim := lim) (v := 1073741824) (by omega)]; exact new_at _ _)
end Go.Proofs.YtefknfbmphdafaaGreat.Ds
namespace Go.Proofs.YtefknfbmphdafaaGreat.Ds
open Go.RowKit Go.Maps DkM

def okc (c : UInt8) : Bool := (decide (97 ≤ c.toNat) && decide (c.toNat ≤ 122)) || (decide (48 ≤ c.toNat) && decide (c.toNat ≤ 57))
def allOk (l : List UInt8) : Bool := l.all okc
def Rgt (n : ByteArray) : Bool := decide (1 ≤ n.size) && decide (n.size ≤ 20) && allOk n.data.toList
theorem allOk_snoc (l : List UInt8) (c : UInt8) : allOk (l ++ [c]) = (allOk l && okc c) := by simp [allOk]
theorem bytes_take (s : ByteArray) (k : Nat) (h : k < s.size) : s.data.toList.take (k + 1) = s.data.toList.take k ++ [s[k]] := by
  rw [List.take_succ_eq_append_getElem (by simpa using h)]; rfl
theorem take_all (s : ByteArray) : s.data.toList.take s.size = s.data.toList := List.take_of_length_le (by show s.data.toList.length ≤ s.data.size; simp)
theorem allOk_next {s : ByteArray} {k : Nat} (h : k < s.size) (ha : allOk (s.data.toList.take k) = true) (hc : okc s[k] = true) : allOk (s.data.toList.take (k + 1)) = true := by
  rw [bytes_take s k h, allOk_snoc, ha, hc]; rfl
theorem allOk_not {s : ByteArray} {k : Nat} (h : k < s.size) (hc : okc s[k] = false) : Rgt s = false := by
  have e : allOk s.data.toList = false := by
    unfold allOk
    rw [List.all_eq_false]
    exact ⟨s[k], by show s.data[k] ∈ _; rw [← Array.getElem_toList]; exact List.getElem_mem _, by rw [hc]; decide⟩
  unfold Rgt; rw [e]; simp
theorem okc_yes {c : UInt8} (h : (97 ≤ (c.toNat : Int) ∧ (c.toNat : Int) ≤ 122) ∨ (48 ≤ (c.toNat : Int) ∧ (c.toNat : Int) ≤ 57)) : okc c = true := by
  unfold okc; simp only [Bool.or_eq_true, Bool.and_eq_true, decide_eq_true_eq]; omega
theorem okc_no {c : UInt8} (h : ¬ ((97 ≤ (c.toNat : Int) ∧ (c.toNat : Int) ≤ 122) ∨ (48 ≤ (c.toNat : Int) ∧ (c.toNat : Int) ≤ 57))) : okc c = false := by
  rw [← Bool.not_eq_true]; unfold okc; simp only [Bool.or_eq_true, Bool.and_eq_true, decide_eq_true_eq]; omega
theorem rgt_end {s : ByteArray} (h : allOk s.data.toList = true) (v : Bool) (hv : v = true ↔ 1 ≤ s.size ∧ s.size ≤ 20) : Rgt s = v := by
  rw [Bool.eq_iff_iff, hv]; unfold Rgt; rw [h]; simp

set_option maxHeartbeats 1000000 in
theorem right_any (s : ByteArray) (w : World) (hs : s.size ≤ 9223372036854775807) :
    Calls Tryz.prog 47 #[.string s] w fun e w' => e = .returned (.bool (Rgt s)) ∧ w = w' := by
  go_enter Tryz.func47, Tryz.ntmps47
  go_wp2
  go_loop [7] (fun i => ∃ k : Nat, k ≤ s.size ∧ allOk (s.data.toList.take k) = true ∧ i = .int .i64 k) (fun i => s.size - (intOf i).toNat)
  case atStart => exact ⟨0, Nat.zero_le _, rfl, rfl⟩
  case round =>
    obtain ⟨k, hk, ha, rfl⟩ := hrel
    have HA := Lib.hid ha
    clear ha
    by_cases hlt : k < s.size
    · have HN := fun (hc : okc s[k] = true) => Lib.hid (allOk_next hlt HA.out hc)
      have HF := fun (hc : okc s[k] = false) => Lib.hid (allOk_not hlt hc)
      replace HN := Lib.hid HN
      replace HF := Lib.hid HF
      go_wp2
      all_goals
        first
        | (go_ret; exact ⟨by rw [(HF.out (okc_no (by omega))).out]; rfl, rfl⟩)
        | (go_round
           case rel => exact ⟨k + 1, by omega, (HN.out (okc_yes (by omega))).out, by go_num⟩
           case measure => simp [intOf]; omega)
    · obtain rfl : k = s.size := by omega
      have HE := Lib.hid (show allOk s.data.toList = true by rw [← take_all s]; exact HA.out)
      go_wp2
      all_goals
        go_ret
        first
        | exact ⟨by rw [rgt_end HE.out (decide ((s.size : Int) ≤ 20)) (by simp; omega)]; rfl, rfl⟩
        | exact ⟨by rw [rgt_end HE.out false (by simp; omega)]; rfl, rfl⟩

theorem rgt_short {s : ByteArray} (h : s.size < 1 ∨ 20 < s.size) : Rgt s = false := by
  rw [← Bool.not_eq_true]; unfold Rgt; simp only [Bool.and_eq_true, decide_eq_true_eq]; omega
set_option maxHeartbeats 1000000 in
theorem right_ref (s : ByteArray) (w : World) (hs : s.size ≤ 9223372036854775807) :
    Calls Tryz.prog 85 #[.string s] w fun e w' => e = .returned (.bool (Rgt s)) ∧ w = w' := by
  by_cases hsz : s.size < 1 ∨ 20 < s.size
  · have HE := Lib.hid (rgt_short hsz)
    rcases hsz with hsz | hsz
    all_goals
      go_enter Tryz.func85, Tryz.ntmps85
      go_wp2
      go_ret
      exact ⟨by rw [HE.out]; rfl, rfl⟩
  · have h1 : 1 ≤ s.size := by omega
    have h2 : s.size ≤ 20 := by omega
    clear hsz
    go_enter Tryz.func85, Tryz.ntmps85
    go_wp2
    go_loop [3] (fun i => ∃ k : Nat, k ≤ s.size ∧ allOk (s.data.toList.take k) = true ∧ i = .int .i64 k) (fun i => s.size - (intOf i).toNat)
    case atStart => exact ⟨0, Nat.zero_le _, rfl, rfl⟩
    case round =>
      obtain ⟨k, hk, ha, rfl⟩ := hrel
      have HA := Lib.hid ha
      clear ha
      by_cases hlt : k < s.size
      · have HN := fun (hc : okc s[k] = true) => Lib.hid (allOk_next hlt HA.out hc)
        have HF := fun (hc : okc s[k] = false) => Lib.hid (allOk_not hlt hc)
        replace HN := Lib.hid HN
        replace HF := Lib.hid HF
        go_wp2
        all_goals
          first
          | (go_ret; exact ⟨by rw [(HF.out (okc_no (by first | omega | (simp at *; omega)))).out]; rfl, rfl⟩)
          | (go_round
             case rel => exact ⟨k + 1, by omega, (HN.out (okc_yes (by first | omega | (simp at *; omega)))).out, by go_num⟩
             case measure => simp [intOf]; omega)
      · obtain rfl : k = s.size := by omega
        have HE := Lib.hid (show allOk s.data.toList = true by rw [← take_all s]; exact HA.out)
        go_wp2
        go_ret
        exact ⟨by rw [rgt_end HE.out true (by simp; omega)]; rfl, rfl⟩
end Go.Proofs.YtefknfbmphdafaaGreat.Ds
namespace Go.Proofs.YtefknfbmphdafaaGreat.Ds
open Go.RowKit Go.Maps DkM

abbrev ptr (x : Nat) : Value := .pointer (some ⟨x, 0, none⟩)
def nul : ByteArray := ⟨#[]⟩
theorem app_nul (a : ByteArray) : a ++ nul = a := ba_ext (by rw [app_list]; simp [nul])
theorem nul_app (a : ByteArray) : nul ++ a = a := ba_ext (by rw [app_list]; simp [nul])
theorem file_new (n : ByteArray) : (Value.agg #[.string ⟨#[]⟩, .int .i64 0]) = fileV ⟨n, nul, nul⟩ := by
  unfold fileV
  simp only [app_nul]
  rfl
theorem cell_lt {w : World} {a : Addr} {v : Value} (h : w.cell? a = some v) : a.block < w.heap.size := by
  rcases Nat.lt_or_ge a.block w.heap.size with h' | h'
  · exact h'
  · simp [World.cell?, Array.getElem?_eq_none h'] at h
theorem cell_alloc {w : World} {a : Addr} {v : Value} (h : w.cell? a = some v) (o : Obj) : (w.drew.alloc o).cell? a = some v :=
  (World.cell?_alloc_lt w.drew o a (cell_lt h)).trans h
theorem run_field0 (B : ByteArray) (m : Int) (w : World) : (Instr.field 101 (.agg #[.string B, .int .i64 m]) 0).run Tryz.prog w = .ok (.string B) w := by kernel_rfl
section
variable {w : World} {p b x y z : Nat} {S : Dk}

set_option maxRecDepth 100000 in
set_option maxHeartbeats 400000 in
theorem create1_any (h : DiskAt w p b S) (hl : S.L.length < maxLen) {n : ByteArray} (hn : n.size ≤ maxLen) (hx : w.cell? ⟨x, 0, none⟩ = some (ptr p)) (hy : w.cell? ⟨y, 0, none⟩ = some (.string n)) :
    Calls Tryz.prog 50 #[ptr x, ptr y] w fun e w' => e = .returned (.tuple #[]) ∧ DiskAt w' p b { S with L := putF S.L ⟨n, nul, nul⟩ } ∧ Kp p b w w' := by
  obtain ⟨lt, c0, c1, c2, c3, c4, c5, c6⟩ := h.cells
  have H := Lib.hid h
  clear h c1 c2 c3 c4 c5 c6
  go_enter Tryz.func50, Tryz.ntmps50
  go_wp2
  go_still_tail 6, (by kernel_rfl)
  refine wpList_putF _ rfl _ _ _ rfl b S.L n ⟨n, nul, nul⟩ rfl H.out.drew.own hl rfl (file_new n) rfl hn ?_
  intro w1 ho ht
  go_wp2
  go_end0
  exact ⟨rfl, H.out.drew.turned ho ht, (Kp.drew w).trans (Kp.turned ht)⟩

theorem cell_ne {L : List Fl} {v : Value} {i : Nat} (h : w.cell? ⟨x, i, none⟩ = some v) (ho : Own w b L) : x ≠ b := by
  rintro rfl
  obtain ⟨es, clock, hb, _⟩ := ho
  simp [World.cell?, hb] at h
theorem turned_cell {w' : World} {v : Value} {i : Nat} (ht : w.mapTurned w' b) (h : w.cell? ⟨x, i, none⟩ = some v) (hne : x ≠ b) : w'.cell? ⟨x, i, none⟩ = some v :=
  ((Kp.turned (p := b) ht).cell (cell_lt h) hne hne).trans h
theorem file_app {f : Fl} {n t : ByteArray} : (Value.agg #[.string (f.s ++ f.l ++ t), .int .i64 (f.s.size : Nat)]) = fileV ⟨n, f.s, f.l ++ t⟩ := by
  unfold fileV; rw [ByteArray.append_assoc]

set_option maxRecDepth 100000 in
set_option maxHeartbeats 1000000 in
theorem append1_any (h : DiskAt w p b S) (hl : S.L.length < maxLen) {n t : ByteArray} (hn : n.size ≤ maxLen) {f : Fl} (hf : lkF S.L n = some f) (hx : w.cell? ⟨x, 0, none⟩ = some (ptr p)) (hy : w.cell? ⟨y, 0, none⟩ = some (.string n)) (hz : w.cell? ⟨z, 0, none⟩ = some (.string t))
    (hu0 : 0 ≤ S.used) (hu1 : S.used + t.size ≤ 9223372036854775807) (hcat : (f.s ++ f.l).size + t.size ≤ 9223372036854775807) :
    Calls Tryz.prog 65 #[ptr x, ptr y, ptr z] w fun e w' => e = .returned (.tuple #[]) ∧ DiskAt w' p b { S with L := putF S.L ⟨n, f.s, f.l ++ t⟩, used := S.used + t.size } ∧ Kp p b w w' := by
  have hc := h.cells
  obtain ⟨lt, c0, c1, c2, c3, c4, c5, c6⟩ := hc
  have hlk := run_look h.drew.own hn
  have hlk2 := fun o => run_look (h.drew.own.alloc o) hn
  rw [hf] at hlk hlk2
  unfold orV flB flN at hlk hlk2
  have HX := Lib.hid (cell_ne hx h.own)
  have HY := Lib.hid (cell_ne hy h.own)
  have HZ := Lib.hid (cell_ne hz h.own)
  have lx := cell_lt hx
  have ly := cell_lt hy
  have lz := cell_lt hz
  simp only at lx ly lz
  have H := Lib.hid h
  clear h c1 c2 c4 c5 c6
  go_enter Tryz.func65, Tryz.ntmps65
  go_wp2
  go_region_held3 (fun w' => w'.cell? ⟨x, 0, none⟩ = some (ptr p) ∧ w'.cell? ⟨y, 0, none⟩ = some (.string n) ∧ w'.cell? ⟨p, 0, none⟩ = some (.map (some b)) ∧ (Instr.lookup 99 (.map (some b)) (.string n) false).run Tryz.prog w' = .ok (.agg #[.string (f.s ++ f.l), .int .i64 (f.s.size : Nat)]) w')
    (first | exact ⟨hx, hy, c0, hlk⟩ | exact ⟨(cell_alloc hx _), (cell_alloc hy _), (cell_alloc c0 _), hlk2 _⟩) (fail)
  all_goals
    clear hlk hlk2
    go_wp2
    obtain ⟨W, hW⟩ : ∃ W, W = (w.alloc (.cells #[.string (f.s ++ f.l ++ t), .int .i64 (f.s.size : Nat)] 101)).drew := ⟨_, rfl⟩
    have D0 : DiskAt W p b S := by rw [hW]; exact (H.out.alloc _).drew
    have X0 : W.cell? ⟨x, 0, none⟩ = some (ptr p) := by rw [hW]; exact cell_alloc hx _
    have Y0 : W.cell? ⟨y, 0, none⟩ = some (.string n) := by rw [hW]; exact cell_alloc hy _
    have Z0 : W.cell? ⟨z, 0, none⟩ = some (.string t) := by rw [hW]; exact cell_alloc hz _
    have K0 : Kp p b w W := by rw [hW]; exact (Kp.alloc _ _).trans (Kp.drew _)
    have N0 : W.cell? ⟨w.heap.size, 0, none⟩ = some (.string (f.s ++ f.l ++ t)) := by rw [hW]; simp
    have N1 : W.cell? ⟨w.heap.size, 1, none⟩ = some (.int .i64 (f.s.size : Nat)) := by rw [hW]; simp
    obtain ⟨lt0, d0, -⟩ := D0.cells
    rw [← hW]
    have D1 := Lib.hid D0
    clear hW hx hy hz c0 c3 lx ly lz lt D0
    go_still_tail 6, (by kernel_rfl)
    refine wpList_putF _ rfl _ _ _ rfl b S.L n ⟨n, f.s, f.l ++ t⟩ rfl D1.out.drew.own hl rfl file_app rfl hn ?_
    intro w1 ho ht
    have D2 := D1.out.drew.turned ho ht
    have X1 : w1.cell? ⟨x, 0, none⟩ = some (ptr p) := turned_cell ht X0 HX.out
    have Z1 : w1.cell? ⟨z, 0, none⟩ = some (.string t) := turned_cell ht Z0 HZ.out
    have K1 : Kp p b w w1 := K0.trans ((Kp.drew _).trans (Kp.turned ht))
    obtain ⟨lt1, -, -, -, d3, -⟩ := D2.cells
    have f3 := D2.blk.frozen 3
    have D3 := Lib.hid D2
    clear ho ht D2 X0 Y0 Z0 K0 N0 N1 lt0 d0
    simp only at d3
    go_wp2
    go_still_tail 9, (by kernel_rfl)
    go_wp2
    go_end0
    exact ⟨rfl, D3.out.drew.set3 _, K1.trans ((Kp.drew _).trans (Kp.setP _ _ _))⟩

theorem file_syn {f : Fl} {n : ByteArray} : (Value.agg #[.string (f.s ++ f.l), .int .i64 ((f.s.size : Nat) + (f.l.size : Nat))]) = fileV ⟨n, f.s ++ f.l, nul⟩ := by
  unfold fileV; simp only [app_nul, app_size]; rfl
theorem file_ren {f : Fl} {n : ByteArray} : (Value.agg #[.string (f.s ++ f.l), .int .i64 (f.s.size : Nat)]) = fileV ⟨n, f.s, f.l⟩ := rfl

set_option maxRecDepth 100000 in
set_option maxHeartbeats 1000000 in
theorem sync1_any (h : DiskAt w p b S) (hl : S.L.length < maxLen) {n : ByteArray} (hn : n.size ≤ maxLen) {f : Fl} (hf : lkF S.L n = some f) (hx : w.cell? ⟨x, 0, none⟩ = some (ptr p)) (hy : w.cell? ⟨y, 0, none⟩ = some (.string n)) :
    Calls Tryz.prog 115 #[ptr x, ptr y] w fun e w' => e = .returned (.tuple #[]) ∧ DiskAt w' p b { S with L := putF S.L ⟨n, f.s ++ f.l, nul⟩ } ∧ Kp p b w w' := by
  have hc := h.cells
  obtain ⟨lt, c0, c1, c2, c3, c4, c5, c6⟩ := hc
  have hlk := run_look h.drew.own hn
  have hlk2 := fun o => run_look (h.drew.own.alloc o) hn
  rw [hf] at hlk hlk2
  unfold orV flB flN at hlk hlk2
  have H := Lib.hid h
  clear h c1 c2 c3 c4 c5 c6
  go_enter Tryz.func115, Tryz.ntmps115
  go_wp2
  go_region_held3 (fun w' => w'.cell? ⟨x, 0, none⟩ = some (ptr p) ∧ w'.cell? ⟨y, 0, none⟩ = some (.string n) ∧ w'.cell? ⟨p, 0, none⟩ = some (.map (some b)) ∧ (Instr.lookup 99 (.map (some b)) (.string n) false).run Tryz.prog w' = .ok (.agg #[.string (f.s ++ f.l), .int .i64 (f.s.size : Nat)]) w')
    (first | exact ⟨hx, hy, c0, hlk⟩ | exact ⟨(cell_alloc hx _), (cell_alloc hy _), (cell_alloc c0 _), hlk2 _⟩) (fail)
  all_goals
    clear hlk hlk2
    go_wp2
    obtain ⟨W, hW⟩ : ∃ W, W = (w.alloc (.cells #[.string (f.s ++ f.l), .int .i64 ((f.s.size : Nat) + (f.l.size : Nat))] 101)).drew := ⟨_, rfl⟩
    have D0 : DiskAt W p b S := by rw [hW]; exact (H.out.alloc _).drew
    have X0 : W.cell? ⟨x, 0, none⟩ = some (ptr p) := by rw [hW]; exact cell_alloc hx _
    have Y0 : W.cell? ⟨y, 0, none⟩ = some (.string n) := by rw [hW]; exact cell_alloc hy _
    have K0 : Kp p b w W := by rw [hW]; exact (Kp.alloc _ _).trans (Kp.drew _)
    have N0 : W.cell? ⟨w.heap.size, 0, none⟩ = some (.string (f.s ++ f.l)) := by rw [hW]; simp
    have N1 : W.cell? ⟨w.heap.size, 1, none⟩ = some (.int .i64 ((f.s.size : Nat) + (f.l.size : Nat))) := by rw [hW]; simp
    obtain ⟨lt0, d0, -⟩ := D0.cells
    rw [← hW]
    have D1 := Lib.hid D0
    clear hW hx hy c0 lt D0
    go_still_tail 6, (by kernel_rfl)
    refine wpList_putF _ rfl _ _ _ rfl b S.L n ⟨n, f.s ++ f.l, nul⟩ rfl D1.out.drew.own hl rfl file_syn rfl hn ?_
    intro w1 ho ht
    go_wp2
    go_end0
    exact ⟨rfl, D1.out.drew.turned ho ht, K0.trans ((Kp.drew _).trans (Kp.turned ht))⟩

set_option maxRecDepth 100000 in
set_option maxHeartbeats 1000000 in
theorem delete1_any (h : DiskAt w p b S) {n : ByteArray} (hn : n.size ≤ maxLen) (hx : w.cell? ⟨x, 0, none⟩ = some (ptr p)) (hy : w.cell? ⟨y, 0, none⟩ = some (.string n))
    (hu0 : (flB (lkF S.L n)).size ≤ S.used) (hu1 : S.used ≤ 9223372036854775807) :
    Calls Tryz.prog 117 #[ptr x, ptr y] w fun e w' => e = .returned (.tuple #[]) ∧ DiskAt w' p b { S with L := wo S.L n, used := S.used - (flB (lkF S.L n)).size } ∧ Kp p b w w' := by
  have hc := h.cells
  obtain ⟨lt, c0, c1, c2, c3, c4, c5, c6⟩ := hc
  have hlk := run_look h.drew.own hn
  have HX := Lib.hid (cell_ne hx h.own)
  have HY := Lib.hid (cell_ne hy h.own)
  have f3 := h.blk.frozen 3
  have hxp : x ≠ p := by
    rintro rfl
    rw [c0] at hx; cases hx
  have hyp : y ≠ p := by
    rintro rfl
    rw [c0] at hy; cases hy
  have hx2 : ∀ v, (w.setCell ⟨p, 3, none⟩ v).cell? ⟨x, 0, none⟩ = some (ptr p) := fun v => by rw [World.cell?_setCell_other _ _ _ _ (by intro e; injection e with e; exact hxp e.symm)]; exact hx
  have hy2 : ∀ v, (w.setCell ⟨p, 3, none⟩ v).cell? ⟨y, 0, none⟩ = some (.string n) := fun v => by rw [World.cell?_setCell_other _ _ _ _ (by intro e; injection e with e; exact hyp e.symm)]; exact hy
  unfold orV at hlk
  have hfl := run_field0
  generalize (flB (lkF S.L n)) = B at *
  have H := Lib.hid h
  replace hxp := Lib.hid hxp
  replace hyp := Lib.hid hyp
  replace hx2 := Lib.hid hx2
  replace hy2 := Lib.hid hy2
  clear h c1 c2 c4 c5 c6
  go_enter Tryz.func117, Tryz.ntmps117
  go_wp2
  go_still_tail 15, (by kernel_rfl)
  go_wp2
  obtain ⟨W, hW⟩ : ∃ W, W = (w.setCell ⟨p, 3, none⟩ (.int .i64 (S.used - B.size))).drew := ⟨_, rfl⟩
  have D0 : DiskAt W p b { S with used := S.used - B.size } := by rw [hW]; exact (H.out.set3 _).drew
  have X0 : W.cell? ⟨x, 0, none⟩ = some (ptr p) := by rw [hW]; exact hx2.out _
  have Y0 : W.cell? ⟨y, 0, none⟩ = some (.string n) := by rw [hW]; exact hy2.out _
  have K0 : Kp p b w W := by rw [hW]; exact (Kp.setP _ _ _).trans (Kp.drew _)
  obtain ⟨lt0, d0, -⟩ := D0.cells
  rw [← hW]
  have D1 := Lib.hid D0
  clear hW hx hy hx2 hy2 c0 c3 f3 lt D0 hlk
  go_still_tail 5, (by kernel_rfl)
  refine wpList_drop _ rfl _ _ rfl b S.L n rfl D1.out.drew.own rfl hn ?_
  intro w1 ho ht
  go_wp2
  go_end0
  exact ⟨rfl, D1.out.drew.turned ho ht, K0.trans ((Kp.drew _).trans (Kp.turned ht))⟩
end
end Go.Proofs.YtefknfbmphdafaaGreat.Ds
namespace Go.Proofs.YtefknfbmphdafaaGreat.Ds
open Go.RowKit Go.Maps DkM
theorem seq_yes (m : ByteArray) : (m.toList == m.toList) = true := by simp
theorem seq_no {m n : ByteArray} (h : m ≠ n) : (m.toList == n.toList) = false := by
  rw [ByteArray.toList_eq, ByteArray.toList_eq]; exact eqN_no.2 h
theorem seq_eq (m n : ByteArray) : (m.toList == n.toList) = eqN m n := by
  rw [ByteArray.toList_eq, ByteArray.toList_eq]; rfl
theorem cell_set {w : World} {a : Addr} {x : Nat} {v u : Value} (h : w.cell? ⟨x, 0, none⟩ = some v) (hne : x ≠ a.block) : (w.setCell a u).cell? ⟨x, 0, none⟩ = some v := by
  rw [World.cell?_setCell_other _ _ _ _ (by rintro rfl; exact hne rfl)]; exact h
section
variable {w : World} {p b x y z : Nat} {S : Dk}

set_option maxRecDepth 100000 in
set_option maxHeartbeats 1000000 in
theorem rename1_same (h : DiskAt w p b S) {m : ByteArray} (hx : w.cell? ⟨x, 0, none⟩ = some (.string m)) (hy : w.cell? ⟨y, 0, none⟩ = some (.string m)) :
    Calls Tryz.prog 116 #[ptr x, ptr y, ptr z] w fun e w' => e = .returned (.tuple #[]) ∧ DiskAt w' p b S ∧ Kp p b w w' := by
  have H := Lib.hid h
  have hq := seq_yes m
  clear h
  go_enter Tryz.func116, Tryz.ntmps116
  go_wp2
  refine bodyPost_ret (results_none rfl _ _ _) rfl ?_
  exact ⟨rfl, H.out, Kp.refl _ _ _⟩

set_option maxRecDepth 100000 in
set_option maxHeartbeats 1000000 in
theorem rename1_any (h : DiskAt w p b S) (hl : S.L.length < maxLen) {m n : ByteArray} (hm : m.size ≤ maxLen) (hn : n.size ≤ maxLen) (hne : m ≠ n) {f : Fl} (hf : lkF S.L m = some f)
    (hx : w.cell? ⟨x, 0, none⟩ = some (.string m)) (hy : w.cell? ⟨y, 0, none⟩ = some (.string n)) (hz : w.cell? ⟨z, 0, none⟩ = some (ptr p))
    (hu0 : (flB (lkF S.L n)).size ≤ S.used) (hu1 : S.used ≤ 9223372036854775807) :
    Calls Tryz.prog 116 #[ptr x, ptr y, ptr z] w fun e w' => e = .returned (.tuple #[]) ∧ DiskAt w' p b { S with L := wo (putF S.L ⟨n, f.s, f.l⟩) m, used := S.used - (flB (lkF S.L n)).size } ∧ Kp p b w w' := by
  have hc := h.cells
  obtain ⟨lt, c0, c1, c2, c3, c4, c5, c6⟩ := hc
  have hlk := run_look h.drew.own hn
  have hlkm : ∀ W : World, Own W b S.L → (Instr.lookup 99 (.map (some b)) (.string m) false).run Tryz.prog W = .ok (.agg #[.string (f.s ++ f.l), .int .i64 (f.s.size : Nat)]) W := fun W hW => by
    have := run_look hW hm
    rw [hf] at this
    exact this
  have HX := Lib.hid (cell_ne hx h.own)
  have HY := Lib.hid (cell_ne hy h.own)
  have HZ := Lib.hid (cell_ne hz h.own)
  have f3 := h.blk.frozen 3
  have hxp : x ≠ p := by
    rintro rfl
    rw [c0] at hx; cases hx
  have hyp : y ≠ p := by
    rintro rfl
    rw [c0] at hy; cases hy
  have hzp : z ≠ p := by
    rintro rfl
    rw [c0] at hz; cases hz
  have hq := seq_no hne
  unfold orV at hlk
  have hfl := run_field0
  generalize (flB (lkF S.L n)) = B at *
  have H := Lib.hid h
  replace hxp := Lib.hid hxp
  replace hyp := Lib.hid hyp
  replace hzp := Lib.hid hzp
  replace hlkm := Lib.hid hlkm
  clear h c1 c2 c4 c5 c6 hne
  go_enter Tryz.func116, Tryz.ntmps116
  go_wp2
  go_still_tail 15, (by kernel_rfl)
  go_wp2
  obtain ⟨W, hW⟩ : ∃ W, W = (w.setCell ⟨p, 3, none⟩ (.int .i64 (S.used - B.size))).drew := ⟨_, rfl⟩
  have D0 : DiskAt W p b { S with used := S.used - B.size } := by rw [hW]; exact (H.out.set3 _).drew
  have X0 : W.cell? ⟨x, 0, none⟩ = some (.string m) := by rw [hW]; exact cell_set hx hxp.out
  have Y0 : W.cell? ⟨y, 0, none⟩ = some (.string n) := by rw [hW]; exact cell_set hy hyp.out
  have Z0 : W.cell? ⟨z, 0, none⟩ = some (ptr p) := by rw [hW]; exact cell_set hz hzp.out
  have K0 : Kp p b w W := by rw [hW]; exact (Kp.setP _ _ _).trans (Kp.drew _)
  obtain ⟨lt0, d0, -⟩ := D0.cells
  have hlk3 := hlkm.out _ D0.drew.own
  rw [← hW]
  have D1 := Lib.hid D0
  clear hW hx hy hz c0 c3 f3 lt D0 hlk
  go_still_tail 11, (by kernel_rfl)
  refine wpList_putF _ rfl _ _ _ rfl b S.L n ⟨n, f.s, f.l⟩ rfl D1.out.drew.own hl rfl file_ren rfl hn ?_
  intro w1 ho ht
  have D2 := D1.out.drew.turned ho ht
  have X1 : w1.cell? ⟨x, 0, none⟩ = some (.string m) := turned_cell ht X0 HX.out
  have Z1 : w1.cell? ⟨z, 0, none⟩ = some (ptr p) := turned_cell ht Z0 HZ.out
  have K1 : Kp p b w w1 := K0.trans ((Kp.drew _).trans (Kp.turned ht))
  obtain ⟨lt1, d0, -⟩ := D2.cells
  have D3 := Lib.hid D2
  clear ho ht D2 X0 Y0 Z0 K0 lt0 hlk3
  go_wp2
  go_still_tail 5, (by kernel_rfl)
  refine wpList_drop _ rfl _ _ rfl b (putF S.L ⟨n, f.s, f.l⟩) m rfl D3.out.drew.own rfl hm ?_
  intro w2 ho ht
  go_wp2
  go_end0
  exact ⟨rfl, D3.out.drew.turned ho ht, K1.trans ((Kp.drew _).trans (Kp.turned ht))⟩
end
end Go.Proofs.YtefknfbmphdafaaGreat.Ds
namespace Go.Proofs.YtefknfbmphdafaaGreat.Ds
open Go.RowKit Go.Maps DkM

def tick (S : Dk) : Dk := { S with fuse := max (S.fuse - 1) (-1), ops := S.ops + 1 }
section
variable {w : World} {p b : Nat} {S : Dk}

set_option maxHeartbeats 400000 in
theorem op_down (h : DiskAt w p b S) (hd : S.down = true) (e : Int) (F : Value) :
    Calls Tryz.prog 49 #[ptr p, .int .i64 e, F] w fun r w' => r = .returned (.int .i64 50) ∧ w = w' := by
  obtain ⟨lt, c0, c1, c2, c3, c4, c5, c6⟩ := h.cells
  rw [hd] at c6
  clear h c0 c1 c2 c3 c4 c5 hd
  go_enter Tryz.func49, Tryz.ntmps49
  go_wp2
  go_ret
  exact ⟨rfl, rfl⟩

set_option maxHeartbeats 400000 in
theorem op_err (h : DiskAt w p b S) (hd : S.down = false) (e : Int) (he : e ≠ 0) (F : Value) :
    Calls Tryz.prog 49 #[ptr p, .int .i64 e, F] w fun r w' => r = .returned (.int .i64 e) ∧ w = w' := by
  obtain ⟨lt, c0, c1, c2, c3, c4, c5, c6⟩ := h.cells
  rw [hd] at c6
  have hne : (e != 0) = true := by simpa using he
  clear h c0 c1 c2 c3 c4 c5 hd he
  go_enter Tryz.func49, Tryz.ntmps49
  go_wp2
  go_ret
  exact ⟨rfl, rfl⟩

set_option maxHeartbeats 400000 in
theorem op_fuse (h : DiskAt w p b S) (hd : S.down = false) (hf : S.fuse = 0) (F : Value) :
    Calls Tryz.prog 49 #[ptr p, .int .i64 0, F] w fun r w' => r = .returned (.int .i64 50) ∧ DiskAt w' p b { S with down := true } ∧ Kp p b w w' := by
  obtain ⟨lt, c0, c1, c2, c3, c4, c5, c6⟩ := h.cells
  rw [hd] at c6
  rw [hf] at c2
  have f6 := h.blk.frozen 6
  have H := Lib.hid h
  clear h c0 c1 c3 c4 c5 hd hf
  go_enter Tryz.func49, Tryz.ntmps49
  go_wp2
  go_ret
  exact ⟨rfl, H.out.set6 _, Kp.setP _ _ _⟩

/-- What a closure does, wherever the disk has this state. -/
def Closes (F : FuncId) (C : Array Value) (p b : Nat) (w : World) (S S' : Dk) : Prop :=
  ∀ w1, DiskAt w1 p b S → Kp p b w w1 → Calls Tryz.prog F C w1 fun e w' => e = .returned (.tuple #[]) ∧ DiskAt w' p b S' ∧ Kp p b w1 w'

set_option maxHeartbeats 1000000 in
theorem op_does (h : DiskAt w p b S) (hd : S.down = false) (hf : S.fuse ≠ 0) (hf1 : -1 ≤ S.fuse) (hf2 : S.fuse ≤ 9223372036854775807) (ho1 : 0 ≤ S.ops) (ho2 : S.ops < 9223372036854775807) {F : FuncId} {C : Array Value} {S' : Dk} (hc : Closes F C p b w (tick S) S') (hl : ∀ W : World, (callFunc F C).run Tryz.prog W = .ok (.enter F C) W) :
    Calls Tryz.prog 49 #[ptr p, .int .i64 0, .func (.func F) #[] C] w fun r w' => r = .returned (.int .i64 0) ∧ DiskAt w' p b S' ∧ Kp p b w w' := by
  obtain ⟨lt, c0, c1, c2, c3, c4, c5, c6⟩ := h.cells
  rw [hd] at c6
  have f2 := h.blk.frozen 2
  have f4 := h.blk.frozen 4
  have hf0 : (S.fuse == 0) = false := by simpa using hf
  have H := Lib.hid h
  have HC := Lib.hid hc
  clear h c0 c1 c3 c5 hd hc hf
  go_enter Tryz.func49, Tryz.ntmps49
  go_wp2_with fail
  · have D : DiskAt ((w.setCell ⟨p, 2, none⟩ (.int .i64 (-1))).setCell ⟨p, 4, none⟩ (.int .i64 (S.ops + 1))) p b (tick S) := by
      have e : max (S.fuse - 1) (-1) = -1 := by omega
      unfold tick
      rw [e]
      exact (H.out.set2 _).set4 _
    have K : Kp p b w ((w.setCell ⟨p, 2, none⟩ (.int .i64 (-1))).setCell ⟨p, 4, none⟩ (.int .i64 (S.ops + 1))) := (Kp.setP _ _ _).trans (Kp.setP _ _ _)
    refine (HC.out _ D K).mono ?_
    rintro e w1 ⟨rfl, D1, K1⟩
    have D2 := Lib.hid D1
    clear D1 D
    go_wp2
    go_ret
    exact ⟨rfl, D2.out, K.trans K1⟩
  · have D : DiskAt ((w.setCell ⟨p, 2, none⟩ (.int .i64 (S.fuse - 1))).setCell ⟨p, 4, none⟩ (.int .i64 (S.ops + 1))) p b (tick S) := by
      have e : max (S.fuse - 1) (-1) = S.fuse - 1 := by omega
      unfold tick
      rw [e]
      exact (H.out.set2 _).set4 _
    have K : Kp p b w ((w.setCell ⟨p, 2, none⟩ (.int .i64 (S.fuse - 1))).setCell ⟨p, 4, none⟩ (.int .i64 (S.ops + 1))) := (Kp.setP _ _ _).trans (Kp.setP _ _ _)
    refine (HC.out _ D K).mono ?_
    rintro e w1 ⟨rfl, D1, K1⟩
    have D2 := Lib.hid D1
    clear D1 D
    go_wp2
    go_ret
    exact ⟨rfl, D2.out, K.trans K1⟩

/-- What comes of an op, and its error. -/
def opR (S : Dk) (e : Nat) (S' : Dk) : Dk × Nat := if S.down then (S, 50) else if e ≠ 0 then (S, e) else if S.fuse = 0 then ({ S with down := true }, 50) else (S', 0)
structure Bd (S : Dk) : Prop where
  fuse0 : -1 ≤ S.fuse
  fuse1 : S.fuse ≤ 9223372036854775807
  ops0 : 0 ≤ S.ops
  ops1 : S.ops ≤ 1099511627776
  reads0 : 0 ≤ S.reads
  reads1 : S.reads ≤ 1099511627776
  len : S.L.length ≤ 1048576
  used : S.used = (usd S.L : Nat)
  used1 : usd S.L ≤ 1073741824
  lim0 : 0 ≤ S.lim
  lim1 : S.lim ≤ 1073741824
  rise : Rise S.L
def OpPost (R : Dk × Nat) (p b : Nat) (w : World) (r : Ending) (w' : World) : Prop := r = .returned (.int .i64 (R.2 : Nat)) ∧ DiskAt w' p b R.1 ∧ Kp p b w w'
theorem op_any (h : DiskAt w p b S) (B : Bd S) (e : Nat) {F : FuncId} {C : Array Value} {S' : Dk} (hc : S.down = false → e = 0 → S.fuse ≠ 0 → Closes F C p b w (tick S) S') (hl : ∀ W : World, (callFunc F C).run Tryz.prog W = .ok (.enter F C) W) :
    Calls Tryz.prog 49 #[ptr p, .int .i64 (e : Nat), .func (.func F) #[] C] w (OpPost (opR S e S') p b w) := by
  unfold opR OpPost
  cases hd : S.down with
  | true =>
    rw [if_pos rfl]
    exact (op_down h hd e _).mono fun r w' ⟨h1, h2⟩ => by subst h2; exact ⟨h1, h, Kp.refl _ _ _⟩
  | false =>
    rw [if_neg (by decide)]
    by_cases he : e = 0
    · subst he
      rw [if_neg (by simp)]
      by_cases hf : S.fuse = 0
      · rw [if_pos hf]
        exact op_fuse h hd hf _
      · rw [if_neg hf]
        have := B.ops1
        exact op_does h hd hf B.fuse0 B.fuse1 B.ops0 (by omega) (hc hd rfl hf) hl
    · rw [if_pos he]
      exact (op_err h hd e (by omega) _).mono fun r w' ⟨h1, h2⟩ => by subst h2; exact ⟨h1, h, Kp.refl _ _ _⟩
end
end Go.Proofs.YtefknfbmphdafaaGreat.Ds
