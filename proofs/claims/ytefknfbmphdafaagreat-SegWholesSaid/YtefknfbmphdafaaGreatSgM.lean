/- The log's files in plain words. No program in sight. -/
import Derived.Test.YtefknfbmphdafaaGreatF2
import Derived.Maps.OwnSet
import Derived.Sort.KeysCollected
namespace Go.Proofs.YtefknfbmphdafaaGreat
namespace SgM
open CrcM FrM
open Go

structure Sg where
  k : UInt8
  n : Int
  deriving DecidableEq, Inhabited
theorem sg_ext {a b : Sg} (h : a.k = b.k) (h' : a.n = b.n) : a = b := by cases a; cases b; simp at h h'; rw [h, h']
def eqS (a b : Sg) : Bool := a.k == b.k && a.n == b.n
theorem eqS_iff {a b : Sg} : eqS a b = true ↔ a = b := by
  unfold eqS
  rw [Bool.and_eq_true, beq_iff_eq, beq_iff_eq]
  exact ⟨fun h => sg_ext h.1 h.2, fun h => by rw [h]; exact ⟨rfl, rfl⟩⟩
theorem eqS_self (a : Sg) : eqS a a = true := eqS_iff.2 rfl
theorem eqS_no {a b : Sg} : eqS a b = false ↔ a ≠ b := by rw [← Bool.not_eq_true, eqS_iff]

def okK (k : UInt8) : Bool := decide (k.toNat = 115) || decide (k.toNat = 114) || decide (k.toNat = 99) || decide (k.toNat = 116)
def okS (s : Sg) : Bool := okK s.k && (decide (0 ≤ s.n) && decide (s.n < 4294967296))
def nmL (s : Sg) : List UInt8 := if okS s = true then s.k :: hex 8 s.n.toNat else []
def ofB (l : List UInt8) : Bool := decide (l.length = 9) && (okK (l.getD 0 0) && (l.drop 1).all isDig)
def zS : Sg := ⟨0, 0⟩
def ofS (l : List UInt8) : Sg := if ofB l = true then ⟨l.getD 0 0, (unhex (l.drop 1) : Nat)⟩ else zS

theorem okS_iff {s : Sg} : okS s = true ↔ okK s.k = true ∧ 0 ≤ s.n ∧ s.n < 4294967296 := by
  unfold okS; rw [Bool.and_eq_true, Bool.and_eq_true, decide_eq_true_eq, decide_eq_true_eq]
theorem nm_ok {s : Sg} (h : okS s = true) : nmL s = s.k :: hex 8 s.n.toNat := by unfold nmL; rw [if_pos h]
theorem nm_no {s : Sg} (h : okS s = false) : nmL s = [] := by unfold nmL; rw [if_neg (by rw [h]; decide)]
theorem nm_len {s : Sg} (h : okS s = true) : (nmL s).length = 9 := by rw [nm_ok h]; simp [hex_length]
theorem ofB_iff {l : List UInt8} : ofB l = true ↔ l.length = 9 ∧ okK (l.getD 0 0) = true ∧ (l.drop 1).all isDig = true := by
  unfold ofB; rw [Bool.and_eq_true, Bool.and_eq_true, decide_eq_true_eq]
theorem of_ok {l : List UInt8} (h : ofB l = true) : ofS l = ⟨l.getD 0 0, (unhex (l.drop 1) : Nat)⟩ := by unfold ofS; rw [if_pos h]
theorem of_no {l : List UInt8} (h : ofB l = false) : ofS l = zS := by unfold ofS; rw [if_neg (by rw [h]; decide)]
/-- The name of the file of a name. -/
theorem nm_of {l : List UInt8} (h : ofB l = true) : okS (ofS l) = true ∧ nmL (ofS l) = l := by
  obtain ⟨h1, h2, h3⟩ := ofB_iff.1 h
  have hd : ∀ c ∈ l.drop 1, isDig c = true := List.all_eq_true.1 h3
  have hl : (l.drop 1).length = 8 := by simp; omega
  have hu := unhex_lt (l.drop 1) hd
  rw [hl] at hu
  have hok : okS (ofS l) = true := by
    rw [of_ok h]
    exact okS_iff.2 ⟨h2, by simp only; omega, by simp only; omega⟩
  refine ⟨hok, ?_⟩
  rw [nm_ok hok, of_ok h]
  simp only [Int.toNat_natCast]
  have := hex_unhex (l.drop 1) hd
  rw [hl] at this
  rw [this]
  cases l with
  | nil => simp at h1
  | cons c r => simp
/-- The file of the name of a file. -/
theorem of_nm {s : Sg} (h : okS s = true) : ofB (nmL s) = true ∧ ofS (nmL s) = s := by
  obtain ⟨h1, h2, h3⟩ := okS_iff.1 h
  have e := nm_ok h
  have hb : ofB (nmL s) = true := by
    rw [e]
    refine ofB_iff.2 ⟨by simp [hex_length], by simpa using h1, ?_⟩
    rw [List.all_eq_true]
    exact fun c hc => hex_dig 8 _ c (by simpa using hc)
  refine ⟨hb, ?_⟩
  rw [of_ok hb, e]
  refine sg_ext (by simp) ?_
  simp only [List.drop_succ_cons, List.drop_zero]
  rw [unhex_hex 8 _ (by omega)]
  omega
theorem nm_inj {a b : Sg} (ha : okS a = true) (hb : okS b = true) (h : nmL a = nmL b) : a = b := by
  rw [← (of_nm ha).2, h, (of_nm hb).2]
theorem of_inj {l m : List UInt8} (hl : ofB l = true) (hm : ofB m = true) (h : ofS l = ofS m) : l = m := by
  rw [← (nm_of hl).2, h, (nm_of hm).2]

/-! ### how files compare -/
def lt (a b : Sg) : Bool := decide (a.n < b.n) || (decide (a.n = b.n) && decide (a.k.toNat < b.k.toNat))
theorem lt_iff {a b : Sg} : lt a b = true ↔ a.n < b.n ∨ (a.n = b.n ∧ a.k.toNat < b.k.toNat) := by
  unfold lt; rw [Bool.or_eq_true, Bool.and_eq_true, decide_eq_true_eq, decide_eq_true_eq, decide_eq_true_eq]
theorem lt_no {a b : Sg} : lt a b = false ↔ ¬ (a.n < b.n ∨ (a.n = b.n ∧ a.k.toNat < b.k.toNat)) := by rw [← Bool.not_eq_true, lt_iff]
theorem lt_irr (a : Sg) : lt a a = false := lt_no.2 (by omega)
theorem lt_trans {a b c : Sg} (h : lt a b = true) (h' : lt b c = true) : lt a c = true := by
  rw [lt_iff] at h h' ⊢; omega
theorem lt_asym {a b : Sg} (h : lt a b = true) : lt b a = false := by
  rw [lt_iff] at h; rw [lt_no]; omega
theorem lt_ne {a b : Sg} (h : lt a b = true) : a ≠ b := fun e => by rw [e, lt_irr] at h; cases h
theorem lt_total {a b : Sg} (h : a ≠ b) : lt a b = true ∨ lt b a = true := by
  rw [lt_iff, lt_iff]
  by_cases hn : a.n = b.n
  · have hk : a.k.toNat ≠ b.k.toNat := fun e => h (sg_ext (UInt8.toNat_inj.1 e) hn)
    omega
  · omega
def cmpS (a b : Sg) : Int := if lt a b = true then -1 else if lt b a = true then 1 else 0

/-! ### rows that rise -/
def Up (L : List Sg) : Prop := L.Pairwise fun a b => lt a b = true
def putS (s : Sg) : List Sg → List Sg
  | [] => [s]
  | g :: r => if lt s g = true then s :: g :: r else if lt g s = true then g :: putS s r else g :: r
theorem mem_putS {s x : Sg} : ∀ {L : List Sg}, x ∈ putS s L ↔ x = s ∨ x ∈ L
  | [] => by simp [putS]
  | g :: r => by
    unfold putS
    by_cases h1 : lt s g = true
    · rw [if_pos h1]; simp
    · rw [if_neg h1]
      by_cases h2 : lt g s = true
      · rw [if_pos h2, List.mem_cons, mem_putS (L := r), List.mem_cons]
        constructor
        · rintro (h | h | h)
          · exact Or.inr (Or.inl h)
          · exact Or.inl h
          · exact Or.inr (Or.inr h)
        · rintro (h | h | h)
          · exact Or.inr (Or.inl h)
          · exact Or.inl h
          · exact Or.inr (Or.inr h)
      · rw [if_neg h2]
        have e : g = s := Classical.byContradiction fun hne => by
          rcases lt_total hne with h | h
          · exact h2 h
          · exact h1 h
        rw [e]
        simp
theorem up_putS {s : Sg} : ∀ {L : List Sg}, Up L → Up (putS s L)
  | [], _ => by simp [putS, Up]
  | g :: r, h => by
    obtain ⟨h1, h2⟩ := List.pairwise_cons.1 h
    unfold putS
    by_cases a1 : lt s g = true
    · rw [if_pos a1]
      refine List.pairwise_cons.2 ⟨fun x hx => ?_, h⟩
      rcases List.mem_cons.1 hx with rfl | hr
      · exact a1
      · exact lt_trans a1 (h1 x hr)
    · rw [if_neg a1]
      by_cases a2 : lt g s = true
      · rw [if_pos a2]
        refine List.pairwise_cons.2 ⟨fun x hx => ?_, up_putS h2⟩
        rcases mem_putS.1 hx with rfl | hr
        · exact a2
        · exact h1 x hr
      · rw [if_neg a2]; exact h
theorem up_ext : ∀ {L M : List Sg}, Up L → Up M → (∀ x, x ∈ L ↔ x ∈ M) → L = M
  | [], [], _, _, _ => rfl
  | [], g :: r, _, _, h => by have := (h g).2 (by simp); cases this
  | f :: r, [], _, _, h => by have := (h f).1 (by simp); cases this
  | f :: r, g :: q, hL, hM, h => by
    obtain ⟨a1, a2⟩ := List.pairwise_cons.1 hL
    obtain ⟨b1, b2⟩ := List.pairwise_cons.1 hM
    have e : f = g := by
      rcases List.mem_cons.1 ((h f).1 (by simp)) with rfl | hf
      · rfl
      · rcases List.mem_cons.1 ((h g).2 (by simp)) with hg | hg
        · exact hg.symm
        · have x := lt_trans (a1 g hg) (b1 f hf)
          rw [lt_irr] at x; cases x
    subst e
    congr 1
    refine up_ext a2 b2 fun x => ?_
    constructor
    · intro hx
      rcases List.mem_cons.1 ((h x).1 (by simp [hx])) with rfl | hx'
      · have := a1 x hx; rw [lt_irr] at this; cases this
      · exact hx'
    · intro hx
      rcases List.mem_cons.1 ((h x).2 (by simp [hx])) with rfl | hx'
      · have := b1 x hx; rw [lt_irr] at this; cases this
      · exact hx'
def uq (l : List Sg) : List Sg := l.foldl (fun L s => putS s L) []
theorem uq_gen (l : List Sg) : ∀ L, Up L → Up (l.foldl (fun L s => putS s L) L) ∧ ∀ x, x ∈ l.foldl (fun L s => putS s L) L ↔ x ∈ l ∨ x ∈ L := by
  induction l with
  | nil => intro L h; exact ⟨h, fun x => by simp⟩
  | cons s r ih =>
    intro L h
    obtain ⟨h1, h2⟩ := ih (putS s L) (up_putS h)
    refine ⟨h1, fun x => ?_⟩
    rw [List.foldl_cons, h2 x, mem_putS, List.mem_cons]
    constructor
    · rintro (h | h | h)
      · exact Or.inl (Or.inr h)
      · exact Or.inl (Or.inl h)
      · exact Or.inr h
    · rintro ((h | h) | h)
      · exact Or.inr (Or.inl h)
      · exact Or.inl h
      · exact Or.inr (Or.inr h)
theorem uq_up (l : List Sg) : Up (uq l) := (uq_gen l [] List.Pairwise.nil).1
theorem mem_uq {l : List Sg} {x : Sg} : x ∈ uq l ↔ x ∈ l := by
  have := (uq_gen l [] List.Pairwise.nil).2 x
  rw [show uq l = l.foldl (fun L s => putS s L) [] from rfl, this]
  simp

/-! ### the layout -/
def isC (s : Sg) : Bool := decide (s.k.toNat = 99)
def isSR (s : Sg) : Bool := decide (s.k.toNat = 115) || decide (s.k.toNat = 114)
/-- The last snapshot of a row. -/
def snp (L : List Sg) : Option Sg := L.foldl (fun o s => if isC s = true then some s else o) none
/-- The greatest one. -/
def snF (L : List Sg) : Option Sg := L.foldl (fun o s => if isC s = true then (match o with | none => some s | some t => if t.n < s.n then some s else some t) else o) none
def Top (l : List Sg) (o : Option Sg) : Prop := match o with
  | none => ∀ x ∈ l, isC x = false
  | some s => s ∈ l ∧ isC s = true ∧ ∀ x ∈ l, isC x = true → x.n ≤ s.n
theorem isC_k {s : Sg} (h : isC s = true) : s.k = 99 := by
  unfold isC at h
  rw [decide_eq_true_eq] at h
  exact UInt8.toNat_inj.1 h
theorem top_unique {l : List Sg} {o o' : Option Sg} (h : Top l o) (h' : Top l o') : o = o' := by
  cases o with
  | none =>
    cases o' with
    | none => rfl
    | some t => have := h t h'.1; rw [h'.2.1] at this; cases this
  | some s =>
    cases o' with
    | none => have := h' s h.1; rw [h.2.1] at this; cases this
    | some t =>
      have h1 := h.2.2 t h'.1 h'.2.1
      have h2 := h'.2.2 s h.1 h.2.1
      rw [sg_ext (a := s) (b := t) (by rw [isC_k h.2.1, isC_k h'.2.1]) (by omega)]
theorem top_congr {l m : List Sg} {o : Option Sg} (h : Top l o) (hm : ∀ x, x ∈ l ↔ x ∈ m) : Top m o := by
  cases o with
  | none => exact fun x hx => h x ((hm x).2 hx)
  | some s => exact ⟨(hm s).1 h.1, h.2.1, fun x hx => h.2.2 x ((hm x).2 hx)⟩
theorem snF_snoc (L : List Sg) (s : Sg) : snF (L ++ [s]) = if isC s = true then (match snF L with | none => some s | some t => if t.n < s.n then some s else some t) else snF L := by
  unfold snF; rw [List.foldl_append]; rfl
theorem snp_snoc (L : List Sg) (s : Sg) : snp (L ++ [s]) = if isC s = true then some s else snp L := by
  unfold snp; rw [List.foldl_append]; rfl
theorem rev_ind {α : Type} {P : List α → Prop} (h0 : P []) (h1 : ∀ l a, P l → P (l ++ [a])) : ∀ l, P l := by
  intro l
  have : ∀ r : List α, P r.reverse := by
    intro r
    induction r with
    | nil => exact h0
    | cons a r ih => rw [List.reverse_cons]; exact h1 _ _ ih
  have h := this l.reverse
  rw [List.reverse_reverse] at h
  exact h
theorem snF_top : ∀ l, Top l (snF l) := by
  refine rev_ind (fun x hx => by cases hx) (fun l s ih => ?_)
  rw [snF_snoc]
  by_cases hc : isC s = true
  · rw [if_pos hc]
    cases ho : snF l with
    | none =>
      rw [ho] at ih
      refine ⟨by simp, hc, fun x hx hx' => ?_⟩
      rcases List.mem_append.1 hx with h | h
      · have := ih x h; rw [hx'] at this; cases this
      · simp at h; rw [h]; exact Int.le_refl _
    | some t =>
      rw [ho] at ih
      obtain ⟨i1, i2, i3⟩ := ih
      show Top _ (if t.n < s.n then some s else some t)
      by_cases hlt : t.n < s.n
      · rw [if_pos hlt]
        refine ⟨by simp, hc, fun x hx hx' => ?_⟩
        rcases List.mem_append.1 hx with h | h
        · have := i3 x h hx'; omega
        · simp at h; rw [h]; exact Int.le_refl _
      · rw [if_neg hlt]
        refine ⟨by simp [i1], i2, fun x hx hx' => ?_⟩
        rcases List.mem_append.1 hx with h | h
        · exact i3 x h hx'
        · simp at h; rw [h]; omega
  · rw [if_neg hc]
    have hc' : isC s = false := by simpa using hc
    cases ho : snF l with
    | none =>
      rw [ho] at ih
      intro x hx
      rcases List.mem_append.1 hx with h | h
      · exact ih x h
      · simp at h; rw [h]; exact hc'
    | some t =>
      rw [ho] at ih
      obtain ⟨i1, i2, i3⟩ := ih
      refine ⟨by simp [i1], i2, fun x hx hx' => ?_⟩
      rcases List.mem_append.1 hx with h | h
      · exact i3 x h hx'
      · simp at h; rw [h, hc'] at hx'; cases hx'
theorem snp_top : ∀ l, Up l → Top l (snp l) := by
  refine rev_ind (fun _ x hx => by cases hx) (fun l s ih => ?_)
  intro hu
  have hu' := List.pairwise_append.1 hu
  have ih := ih hu'.1
  rw [snp_snoc]
  by_cases hc : isC s = true
  · rw [if_pos hc]
    refine ⟨by simp, hc, fun x hx hx' => ?_⟩
    rcases List.mem_append.1 hx with h | h
    · have := lt_iff.1 (hu'.2.2 x h s (by simp)); omega
    · simp at h; rw [h]; exact Int.le_refl _
  · rw [if_neg hc]
    have hc' : isC s = false := by simpa using hc
    cases ho : snp l with
    | none =>
      rw [ho] at ih
      intro x hx
      rcases List.mem_append.1 hx with h | h
      · exact ih x h
      · simp at h; rw [h]; exact hc'
    | some t =>
      rw [ho] at ih
      obtain ⟨i1, i2, i3⟩ := ih
      refine ⟨by simp [i1], i2, fun x hx hx' => ?_⟩
      rcases List.mem_append.1 hx with h | h
      · exact i3 x h hx'
      · simp at h; rw [h, hc'] at hx'; cases hx'
theorem snF_uq (l : List Sg) : snF l = snp (uq l) :=
  top_unique (snF_top l) (top_congr (snp_top _ (uq_up l)) (fun _ => mem_uq))

def isSn (o : Option Sg) (s : Sg) : Bool := match o with | none => false | some t => eqS s t
def geS (o : Option Sg) (s : Sg) : Bool := match o with | none => true | some t => decide (t.n ≤ s.n)
def segF (o : Option Sg) (s : Sg) : Bool := !isSn o s && (isSR s && geS o s)
def traF (o : Option Sg) (s : Sg) : Bool := !isSn o s && !(isSR s && geS o s)
def segsL (L : List Sg) (o : Option Sg) : List Sg := L.filter (segF o)
def trasL (L : List Sg) (o : Option Sg) : List Sg := L.filter (traF o)
theorem keep_iff (o : Option Sg) (s : Sg) : traF o s = false ↔ isSn o s = true ∨ segF o s = true := by
  unfold traF segF
  cases isSn o s <;> cases (isSR s && geS o s) <;> simp
/-- Without the trash. -/
def kept (L : List Sg) : List Sg := L.filter fun s => !traF (snp L) s
theorem kept_snp {L : List Sg} (h : Up L) : snp (kept L) = snp L := by
  have hu : Up (kept L) := List.Pairwise.filter _ h
  refine top_unique (snp_top _ hu) ?_
  have ht := snp_top _ h
  unfold kept
  cases ho : snp L with
  | none => rw [ho] at ht; exact fun x hx => ht x (List.mem_filter.1 hx).1
  | some s =>
    rw [ho] at ht
    obtain ⟨t1, t2, t3⟩ := ht
    refine ⟨List.mem_filter.2 ⟨t1, ?_⟩, t2, fun x hx => t3 x (List.mem_filter.1 hx).1⟩
    rw [Bool.not_eq_true', keep_iff]
    exact Or.inl (eqS_self s)
theorem kept_segs {L : List Sg} (h : Up L) : segsL (kept L) (snp (kept L)) = segsL L (snp L) := by
  rw [kept_snp h]
  unfold segsL kept
  rw [List.filter_filter]
  congr 1
  funext s
  have := keep_iff (snp L) s
  cases hs : segF (snp L) s with
  | false => rfl
  | true => rw [(this.2 (Or.inr hs))]; rfl
theorem kept_tras {L : List Sg} (h : Up L) : trasL (kept L) (snp (kept L)) = [] := by
  rw [kept_snp h]
  unfold trasL kept
  rw [List.filter_filter, List.filter_eq_nil_iff]
  intro s _
  cases traF (snp L) s <;> simp
/-- The number behind all. -/
def nxt (has : Bool) (n0 : Int) (segs : List Sg) : Int := segs.foldl (fun n s => max n (s.n + 1)) (if has = true ∧ segs = [] then n0 else 0)
theorem max_fold (l : List Sg) : ∀ n : Int, n ≤ l.foldl (fun n s => max n (s.n + 1)) n ∧ ∀ s ∈ l, s.n < l.foldl (fun n s => max n (s.n + 1)) n := by
  induction l with
  | nil => intro n; exact ⟨Int.le_refl _, fun s h => by cases h⟩
  | cons g r ih =>
    intro n
    obtain ⟨h1, h2⟩ := ih (max n (g.n + 1))
    rw [List.foldl_cons]
    refine ⟨by omega, fun s hs => ?_⟩
    rcases List.mem_cons.1 hs with rfl | hr
    · omega
    · exact h2 s hr

/-! ### names, in order -/
theorem bb_irr : ∀ l : List UInt8, bytesBefore l l = false
  | [] => rfl
  | c :: r => by
    have e : bytesBefore (c :: r) (c :: r) = (decide (c < c) || (c == c && bytesBefore r r)) := rfl
    have h1 : decide (c < c) = false := decide_eq_false (fun h => by have := UInt8.lt_iff_toNat_lt.1 h; omega)
    rw [e, bb_irr r, h1]; simp
theorem bb_cons (c d : UInt8) (x y : List UInt8) : bytesBefore (c :: x) (d :: y) = (decide (c.toNat < d.toNat) || (decide (c.toNat = d.toNat) && bytesBefore x y)) := by
  have e : bytesBefore (c :: x) (d :: y) = (decide (c < d) || (c == d && bytesBefore x y)) := rfl
  have h1 : decide (c < d) = decide (c.toNat < d.toNat) := decide_eq_decide.2 UInt8.lt_iff_toNat_lt
  have h2 : (c == d) = decide (c.toNat = d.toNat) := by
    rw [Bool.eq_iff_iff, beq_iff_eq, decide_eq_true_eq]
    exact UInt8.toNat_inj.symm
  rw [e, h1, h2]
theorem dig_lt {a b : Nat} (ha : a < 16) (hb : b < 16) : (dig a).toNat < (dig b).toNat ↔ a < b := by
  have key : ∀ x, x < 16 → (dig x).toNat = if x < 10 then 48 + x else 87 + x := by
    intro x hx
    unfold dig
    split <;> simp <;> omega
  rw [key a ha, key b hb]
  split <;> split <;> omega
theorem dig_eq {a b : Nat} (ha : a < 16) (hb : b < 16) : (dig a).toNat = (dig b).toNat ↔ a = b := by
  have h1 := dig_lt ha hb
  have h2 := dig_lt hb ha
  constructor
  · intro h; omega
  · rintro rfl; rfl
theorem hex_before : ∀ (k a b : Nat), a < 16 ^ k → b < 16 ^ k → bytesBefore (hex k a) (hex k b) = decide (a < b)
  | 0, a, b, ha, hb => by
    have h1 : a = 0 := by simpa using ha
    have h2 : b = 0 := by simpa using hb
    rw [h1, h2]; rfl
  | k + 1, a, b, ha, hb => by
    rw [hex_cons' k a, hex_cons' k b, bb_cons, hex_mod k a, hex_mod k b, hex_before k _ _ (Nat.mod_lt _ (Nat.pow_pos (by decide))) (Nat.mod_lt _ (Nat.pow_pos (by decide)))]
    have hp : 0 < 16 ^ k := Nat.pow_pos (by decide)
    have qa : a / 16 ^ k < 16 := (Nat.div_lt_iff_lt_mul hp).2 (by rw [Nat.pow_succ] at ha; omega)
    have qb : b / 16 ^ k < 16 := (Nat.div_lt_iff_lt_mul hp).2 (by rw [Nat.pow_succ] at hb; omega)
    rw [Nat.mod_eq_of_lt qa, Nat.mod_eq_of_lt qb]
    have ea := Nat.div_add_mod a (16 ^ k)
    have eb := Nat.div_add_mod b (16 ^ k)
    have ra := Nat.mod_lt a hp
    have rb := Nat.mod_lt b hp
    rw [Bool.eq_iff_iff, Bool.or_eq_true, Bool.and_eq_true, decide_eq_true_eq, decide_eq_true_eq, decide_eq_true_eq, decide_eq_true_eq, dig_lt qa qb, dig_eq qa qb]
    generalize a / 16 ^ k = A at *
    generalize b / 16 ^ k = B at *
    generalize a % 16 ^ k = x at *
    generalize b % 16 ^ k = y at *
    generalize 16 ^ k = P at *
    constructor
    · rintro (h | ⟨h, h'⟩)
      · have : P * (A + 1) ≤ P * B := Nat.mul_le_mul_left _ h
        rw [Nat.mul_add, Nat.mul_one] at this
        omega
      · subst h; omega
    · intro h
      rcases Nat.lt_trichotomy A B with h1 | h1 | h1
      · exact Or.inl h1
      · subst h1; exact Or.inr ⟨rfl, by omega⟩
      · have : P * (B + 1) ≤ P * A := Nat.mul_le_mul_left _ h1
        rw [Nat.mul_add, Nat.mul_one] at this
        omega
theorem nm_before {a b : Sg} (ha : okS a = true) (hb : okS b = true) (hk : a.k = b.k) : bytesBefore (nmL a) (nmL b) = decide (a.n < b.n) := by
  obtain ⟨_, a2, a3⟩ := okS_iff.1 ha
  obtain ⟨_, b2, b3⟩ := okS_iff.1 hb
  rw [nm_ok ha, nm_ok hb, hk, bb_cons, hex_before 8 _ _ (by omega) (by omega)]
  rw [Bool.eq_iff_iff]
  simp
  omega
def UpN (L : List (List UInt8)) : Prop := L.Pairwise fun a b => bytesBefore a b = true
theorem upN_ext : ∀ {L M : List (List UInt8)}, UpN L → UpN M → (∀ x, x ∈ L ↔ x ∈ M) → L = M
  | [], [], _, _, _ => rfl
  | [], g :: r, _, _, h => by have := (h g).2 (by simp); cases this
  | f :: r, [], _, _, h => by have := (h f).1 (by simp); cases this
  | f :: r, g :: q, hL, hM, h => by
    obtain ⟨a1, a2⟩ := List.pairwise_cons.1 hL
    obtain ⟨b1, b2⟩ := List.pairwise_cons.1 hM
    have e : f = g := by
      rcases List.mem_cons.1 ((h f).1 (by simp)) with rfl | hf
      · rfl
      · rcases List.mem_cons.1 ((h g).2 (by simp)) with hg | hg
        · exact hg.symm
        · have x := WideShapes.bytes_trans _ _ _ (a1 g hg) (b1 f hf)
          rw [bb_irr] at x; cases x
    subst e
    congr 1
    refine upN_ext a2 b2 fun x => ?_
    constructor
    · intro hx
      rcases List.mem_cons.1 ((h x).1 (by simp [hx])) with rfl | hx'
      · have := a1 x hx; rw [bb_irr] at this; cases this
      · exact hx'
    · intro hx
      rcases List.mem_cons.1 ((h x).2 (by simp [hx])) with rfl | hx'
      · have := b1 x hx; rw [bb_irr] at this; cases this
      · exact hx'
end SgM
end Go.Proofs.YtefknfbmphdafaaGreat
