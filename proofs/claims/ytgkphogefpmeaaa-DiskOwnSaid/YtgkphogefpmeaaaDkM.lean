/- The disk in plain words: a row of files that rises, and how it stands in a map. No program in sight. -/
import Derived.Maps.OwnSet
import Derived.Sort.KeysCollected
namespace Go.Proofs.Ytgkphogefpmeaaa
open Go Go.Maps
namespace DkM

structure Fl where
  n : ByteArray
  s : ByteArray
  l : ByteArray

theorem ba_ext {a b : ByteArray} (h : a.data.toList = b.data.toList) : a = b := by
  cases a; cases b; simp at h; rw [h]
theorem sz_list (s : ByteArray) : s.size = s.data.toList.length := by show s.data.size = _; simp
theorem app_list (a b : ByteArray) : (a ++ b).data.toList = a.data.toList ++ b.data.toList := by simp [ByteArray.data_append]
theorem ext_list (x : ByteArray) (a b : Nat) : (x.extract a b).data.toList = (x.data.toList.take b).drop a := by
  rw [ByteArray.data_extract]
  simp [List.drop_take]
theorem app_size (a b : ByteArray) : (a ++ b).size = a.size + b.size := ByteArray.size_append
theorem ext_size (x : ByteArray) (a b : Nat) : (x.extract a b).size = min b x.size - a := ByteArray.size_extract

/-- The one name is the other one. -/
def eqN (a b : ByteArray) : Bool := a.data.toList == b.data.toList
theorem eqN_iff {a b : ByteArray} : eqN a b = true ↔ a = b := by
  unfold eqN; rw [beq_iff_eq]; exact ⟨ba_ext, fun h => by rw [h]⟩
theorem eqN_self (a : ByteArray) : eqN a a = true := eqN_iff.2 rfl
theorem eqN_no {a b : ByteArray} : eqN a b = false ↔ a ≠ b := by
  rw [← Bool.not_eq_true, eqN_iff]
def bf (a b : ByteArray) : Bool := bytesBefore a.data.toList b.data.toList
theorem bf_irr (a : ByteArray) : bf a a = false := WideAt.bytes_irrefl _
theorem bf_trans {a b c : ByteArray} (h : bf a b = true) (h' : bf b c = true) : bf a c = true := WideShapes.bytes_trans _ _ _ h h'
theorem bf_total {a b : ByteArray} (h : a ≠ b) : bf a b = true ∨ bf b a = true := WideAt.bytes_total _ _ (fun e => h (ba_ext e))
theorem bf_ne {a b : ByteArray} (h : bf a b = true) : a ≠ b := fun e => by rw [e, bf_irr] at h; cases h
theorem bf_asym {a b : ByteArray} (h : bf a b = true) : bf b a = false := by
  cases hb : bf b a
  · rfl
  · have := bf_trans h hb; rw [bf_irr] at this; cases this

def lkF (L : List Fl) (n : ByteArray) : Option Fl := L.find? fun f => eqN f.n n
def wo (L : List Fl) (n : ByteArray) : List Fl := L.filter fun f => !eqN f.n n
def insF (f : Fl) : List Fl → List Fl
  | [] => [f]
  | g :: r => if bf f.n g.n then f :: g :: r else g :: insF f r
def putF (L : List Fl) (f : Fl) : List Fl := insF f (wo L f.n)
def usd : List Fl → Nat
  | [] => 0
  | f :: r => f.s.size + f.l.size + usd r
def Rise (L : List Fl) : Prop := L.Pairwise fun f g => bf f.n g.n = true

/-! ### the map -/
def fileV (f : Fl) : Value := .agg #[.string (f.s ++ f.l), .int .i64 (f.s.size : Nat)]
def holdV (v : Value) : Option (DataW Value × List MemPlace) := some (.held v, [])
def pr (f : Fl) : Lit × DataW Value := (.string f.n.data.toList, .held (fileV f))
def toD (L : List Fl) : DataW Value := .map (L.map pr)

theorem atKey_toD (L : List Fl) (n : ByteArray) (z : DataW Value) : (toD L).atKey (.string n.data.toList) z = match lkF L n with | some f => .held (fileV f) | none => z := by
  unfold toD DataW.atKey lkF
  simp only [List.find?_map]
  have e : ((fun p : Lit × DataW Value => p.1.sameKey (.string n.data.toList)) ∘ pr) = fun f => eqN f.n n := rfl
  rw [e]
  cases L.find? (fun f => eqN f.n n) <;> rfl
theorem has_toD (L : List Fl) (n : ByteArray) : Maps.has (toD L) (.string n.data.toList) = (lkF L n).isSome := by
  show (L.map pr).any _ = _
  rw [List.any_map]
  have e : ((fun p : Lit × DataW Value => p.1.sameKey (.string n.data.toList)) ∘ pr) = fun f => eqN f.n n := rfl
  rw [e]
  unfold lkF
  rw [List.isSome_find?]
theorem wo_toD (L : List Fl) (n : ByteArray) : (L.map pr).filter (fun p => !p.1.sameKey (.string n.data.toList)) = (wo L n).map pr := by
  rw [List.filter_map]; rfl
theorem ins_toD (f : Fl) : ∀ L : List Fl, DataW.insert (pr f) (L.map pr) = (insF f L).map pr
  | [] => rfl
  | g :: r => by
    have e : DataW.insert (pr f) ((g :: r).map pr) = if bf f.n g.n then pr f :: pr g :: r.map pr else pr g :: DataW.insert (pr f) (r.map pr) := rfl
    have e2 : insF f (g :: r) = if bf f.n g.n then f :: g :: r else g :: insF f r := rfl
    rw [e, e2]
    split
    · rfl
    · rw [ins_toD f r]; rfl
theorem put_toD (L : List Fl) (f : Fl) : (toD L).put (.string f.n.data.toList) (.held (fileV f)) = toD (putF L f) := by
  show DataW.map (DataW.insert (pr f) ((L.map pr).filter _)) = _
  rw [wo_toD, ins_toD]; rfl
theorem del_toD (L : List Fl) (n : ByteArray) : (toD L).del (.string n.data.toList) = toD (wo L n) := by
  show DataW.map ((L.map pr).filter _) = _
  rw [wo_toD]; rfl
theorem size_toD (L : List Fl) : Maps.size (toD L) = L.length := by show (L.map pr).length = _; simp
theorem keys_toD (L : List Fl) : strKeys (toD L) = L.map (fun f => f.n.data.toList) := by
  show (L.map pr).map _ = _
  rw [List.map_map]; rfl

theorem bb_lt : ∀ {a b : List UInt8}, bytesBefore a b = true → a < b
  | [], [], h => by cases h
  | [], _ :: _, _ => List.Lex.nil
  | _ :: _, [], h => by cases h
  | x :: a, y :: b, h => by
    have e : bytesBefore (x :: a) (y :: b) = (decide (x < y) || (x == y && bytesBefore a b)) := rfl
    rw [e] at h
    simp only [Bool.or_eq_true, Bool.and_eq_true, decide_eq_true_eq, beq_iff_eq] at h
    rcases h with h | ⟨rfl, h⟩
    · exact List.Lex.rel h
    · exact List.Lex.cons (bb_lt h)
theorem sorted_keys {L : List Fl} (h : Rise L) {ss : List (List UInt8)} (hp : ss.Perm (L.map fun f => f.n.data.toList)) : ss.mergeSort leB = L.map fun f => f.n.data.toList := by
  rw [mergeSort_of_perm hp]
  refine List.mergeSort_of_pairwise ?_
  rw [List.pairwise_map]
  refine h.imp fun {f g} hfg => ?_
  simp only [leB, decide_eq_true_eq]
  exact List.le_of_lt (bb_lt hfg)

/-! ### rows that rise -/
theorem lkF_some {L : List Fl} {n : ByteArray} {f : Fl} (h : lkF L n = some f) : f ∈ L ∧ f.n = n := by
  unfold lkF at h
  exact ⟨List.mem_of_find?_eq_some h, eqN_iff.1 (List.find?_some (p := fun f : Fl => eqN f.n n) h)⟩
theorem lkF_none {L : List Fl} {n : ByteArray} (h : lkF L n = none) : ∀ f ∈ L, f.n ≠ n := by
  unfold lkF at h
  intro f hf e
  have := List.find?_eq_none.1 h f hf
  rw [eqN_iff.2 e] at this
  exact this rfl
theorem lkF_mem {L : List Fl} (h : Rise L) {f : Fl} (hf : f ∈ L) : lkF L f.n = some f := by
  induction L with
  | nil => cases hf
  | cons g r ih =>
    obtain ⟨h1, h2⟩ := List.pairwise_cons.1 h
    unfold lkF
    rcases List.mem_cons.1 hf with rfl | hr
    · rw [List.find?_cons_of_pos (p := fun g : Fl => eqN g.n f.n) (eqN_self _)]
    · rw [List.find?_cons_of_neg (by rw [eqN_no.2 (bf_ne (h1 f hr))]; decide)]
      exact ih h2 hr
theorem mem_wo {L : List Fl} {n : ByteArray} {f : Fl} : f ∈ wo L n ↔ f ∈ L ∧ f.n ≠ n := by
  unfold wo
  rw [List.mem_filter, Bool.not_eq_true', eqN_no]
theorem mem_ins {f g : Fl} : ∀ {L : List Fl}, g ∈ insF f L ↔ g = f ∨ g ∈ L
  | [] => by simp [insF]
  | a :: r => by
    unfold insF
    split
    · simp
    · simp only [List.mem_cons, mem_ins (L := r)]
      constructor
      · rintro (h | h | h)
        · exact Or.inr (Or.inl h)
        · exact Or.inl h
        · exact Or.inr (Or.inr h)
      · rintro (h | h | h)
        · exact Or.inr (Or.inl h)
        · exact Or.inl h
        · exact Or.inr (Or.inr h)
theorem mem_put {L : List Fl} {f g : Fl} : g ∈ putF L f ↔ g = f ∨ (g ∈ L ∧ g.n ≠ f.n) := by
  unfold putF; rw [mem_ins, mem_wo]
theorem Rise.wo {L : List Fl} (h : Rise L) (n : ByteArray) : Rise (wo L n) := List.Pairwise.filter _ h
theorem Rise.ins {f : Fl} : ∀ {L : List Fl}, Rise L → (∀ g ∈ L, g.n ≠ f.n) → Rise (insF f L)
  | [], _, _ => by simp [insF, Rise]
  | a :: r, h, hn => by
    obtain ⟨h1, h2⟩ := List.pairwise_cons.1 h
    unfold insF
    split
    · rename_i hb
      refine List.pairwise_cons.2 ⟨fun g hg => ?_, h⟩
      rcases List.mem_cons.1 hg with rfl | hr
      · exact hb
      · exact bf_trans hb (h1 g hr)
    · rename_i hb
      have hab : bf a.n f.n = true := by
        rcases bf_total (hn a (by simp)) with h' | h'
        · exact h'
        · exact absurd h' hb
      refine List.pairwise_cons.2 ⟨fun g hg => ?_, Rise.ins h2 (fun g hg => hn g (by simp [hg]))⟩
      rcases mem_ins.1 hg with rfl | hr
      · exact hab
      · exact h1 g hr
theorem Rise.put {L : List Fl} (h : Rise L) (f : Fl) : Rise (putF L f) := Rise.ins (h.wo f.n) (fun _ hg => (mem_wo.1 hg).2)
/-- Two rows that rise, and have the same files, are one. -/
theorem rise_ext : ∀ {L M : List Fl}, Rise L → Rise M → (∀ f, f ∈ L ↔ f ∈ M) → L = M
  | [], [], _, _, _ => rfl
  | [], g :: r, _, _, h => by have := (h g).2 (by simp); cases this
  | f :: r, [], _, _, h => by have := (h f).1 (by simp); cases this
  | f :: r, g :: q, hL, hM, h => by
    obtain ⟨a1, a2⟩ := List.pairwise_cons.1 hL
    obtain ⟨b1, b2⟩ := List.pairwise_cons.1 hM
    have e : f = g := by
      rcases List.mem_cons.1 ((h f).1 (by simp)) with rfl | hf
      · rfl
      · rcases List.mem_cons.1 ((h g).2 (by simp)) with hg | hg
        · exact hg.symm
        · have x := bf_trans (a1 g hg) (b1 f hf)
          rw [bf_irr] at x; cases x
    subst e
    congr 1
    refine rise_ext a2 b2 fun x => ?_
    constructor
    · intro hx
      rcases List.mem_cons.1 ((h x).1 (by simp [hx])) with rfl | hx'
      · have := a1 x hx; rw [bf_irr] at this; cases this
      · exact hx'
    · intro hx
      rcases List.mem_cons.1 ((h x).2 (by simp [hx])) with rfl | hx'
      · have := b1 x hx; rw [bf_irr] at this; cases this
      · exact hx'
theorem lkF_put_same {L : List Fl} (h : Rise L) (f : Fl) : lkF (putF L f) f.n = some f := lkF_mem (h.put f) (mem_put.2 (Or.inl rfl))
theorem lkF_iff {L : List Fl} (h : Rise L) {n : ByteArray} {f : Fl} : lkF L n = some f ↔ f ∈ L ∧ f.n = n :=
  ⟨lkF_some, fun ⟨h1, h2⟩ => by subst h2; exact lkF_mem h h1⟩
theorem lkF_eq_none {L : List Fl} {n : ByteArray} : lkF L n = none ↔ ∀ f ∈ L, f.n ≠ n :=
  ⟨lkF_none, fun h => by
    unfold lkF
    rw [List.find?_eq_none]
    intro f hf
    rw [eqN_no.2 (h f hf)]
    decide⟩
theorem lkF_put_other {L : List Fl} (h : Rise L) (f : Fl) {n : ByteArray} (hn : n ≠ f.n) : lkF (putF L f) n = lkF L n := by
  cases hl : lkF L n with
  | none =>
    rw [lkF_eq_none] at hl ⊢
    intro g hg
    rcases mem_put.1 hg with rfl | ⟨hg, _⟩
    · exact fun e => hn e.symm
    · exact hl g hg
  | some g =>
    obtain ⟨h1, h2⟩ := lkF_some hl
    rw [lkF_iff (h.put f)]
    exact ⟨mem_put.2 (Or.inr ⟨h1, by rw [h2]; exact hn⟩), h2⟩
theorem lkF_wo_same {L : List Fl} (n : ByteArray) : lkF (wo L n) n = none := lkF_eq_none.2 fun _ hf => (mem_wo.1 hf).2
theorem lkF_wo_other {L : List Fl} (h : Rise L) {n m : ByteArray} (hn : n ≠ m) : lkF (wo L m) n = lkF L n := by
  cases hl : lkF L n with
  | none =>
    rw [lkF_eq_none] at hl ⊢
    intro g hg
    exact hl g (mem_wo.1 hg).1
  | some g =>
    obtain ⟨h1, h2⟩ := lkF_some hl
    rw [lkF_iff (h.wo m)]
    exact ⟨mem_wo.2 ⟨h1, by rw [h2]; exact hn⟩, h2⟩

/-! ### how many bytes, and how many files -/
def flS : Option Fl → Nat
  | some f => f.s.size + f.l.size
  | none => 0
theorem usd_wo {L : List Fl} (h : Rise L) (n : ByteArray) : usd (wo L n) + flS (lkF L n) = usd L := by
  induction L with
  | nil => rfl
  | cons g r ih =>
    obtain ⟨h1, h2⟩ := List.pairwise_cons.1 h
    have ih := ih h2
    by_cases e : g.n = n
    · subst e
      have hr : lkF r g.n = none := lkF_eq_none.2 fun f hf he => bf_ne (h1 f hf) he.symm
      rw [hr] at ih
      have hw : wo (g :: r) g.n = wo r g.n := by
        unfold wo; rw [List.filter_cons_of_neg (by rw [eqN_self]; decide)]
      rw [lkF_mem h (by simp), hw]
      simp only [usd, flS]
      simp only [flS] at ih
      omega
    · have hw : wo (g :: r) n = g :: wo r n := by
        unfold wo; rw [List.filter_cons_of_pos (by rw [eqN_no.2 e]; rfl)]
      have hl : lkF (g :: r) n = lkF r n := by
        unfold lkF; rw [List.find?_cons_of_neg (by rw [eqN_no.2 e]; decide)]
      rw [hw, hl]
      simp only [usd]
      omega
theorem usd_ins (f : Fl) : ∀ L : List Fl, usd (insF f L) = f.s.size + f.l.size + usd L
  | [] => rfl
  | g :: r => by
    unfold insF
    split
    · rfl
    · simp only [usd, usd_ins f r]; omega
theorem usd_put {L : List Fl} (h : Rise L) (f : Fl) : usd (putF L f) + flS (lkF L f.n) = usd L + f.s.size + f.l.size := by
  unfold putF
  rw [usd_ins]
  have := usd_wo h f.n
  omega
theorem len_ins (f : Fl) : ∀ L : List Fl, (insF f L).length = L.length + 1
  | [] => rfl
  | g :: r => by
    unfold insF
    split
    · rfl
    · simp [len_ins f r]
theorem len_wo (L : List Fl) (n : ByteArray) : (wo L n).length ≤ L.length := List.length_filter_le _ _
theorem len_put (L : List Fl) (f : Fl) : (putF L f).length ≤ L.length + 1 := by
  unfold putF; rw [len_ins]; have := len_wo L f.n; omega
theorem usd_le {L : List Fl} {f : Fl} (h : f ∈ L) : f.s.size + f.l.size ≤ usd L := by
  induction L with
  | nil => cases h
  | cons g r ih =>
    rcases List.mem_cons.1 h with rfl | hr
    · simp only [usd]; omega
    · have := ih hr; simp only [usd]; omega
/-- A file in place of one of its name, where this one stands. -/
theorem put_at {A B : List Fl} {f g : Fl} (h : Rise (A ++ f :: B)) (hn : g.n = f.n) : putF (A ++ f :: B) g = A ++ g :: B := by
  have hR : Rise (A ++ g :: B) := by
    unfold Rise at h ⊢
    rw [List.pairwise_append, List.pairwise_cons] at h ⊢
    obtain ⟨h1, ⟨h2, h3⟩, h4⟩ := h
    refine ⟨h1, ⟨fun x hx => by rw [hn]; exact h2 x hx, h3⟩, fun a ha b hb => ?_⟩
    rcases List.mem_cons.1 hb with rfl | hb
    · rw [hn]; exact h4 a ha f (by simp)
    · exact h4 a ha b (by simp [hb])
  refine rise_ext (h.put g) hR fun x => ?_
  rw [mem_put]
  simp only [List.mem_append, List.mem_cons]
  unfold Rise at h
  rw [List.pairwise_append, List.pairwise_cons] at h
  obtain ⟨_, ⟨h2, _⟩, h4⟩ := h
  constructor
  · rintro (rfl | ⟨h' | rfl | h', hne⟩)
    · exact Or.inr (Or.inl rfl)
    · exact Or.inl h'
    · exact absurd hn.symm hne
    · exact Or.inr (Or.inr h')
  · rintro (h' | rfl | h')
    · exact Or.inr ⟨Or.inl h', by rw [hn]; exact bf_ne (h4 x h' f (by simp))⟩
    · exact Or.inl rfl
    · exact Or.inr ⟨Or.inr (Or.inr h'), by rw [hn]; exact fun e => bf_ne (h2 x h') e.symm⟩
end DkM
end Go.Proofs.Ytgkphogefpmeaaa
