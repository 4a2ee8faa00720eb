/- What holds of the disk behind each op: plain laws. -/
import Derived.Test.YtgkphogefpmeaaaDkP
namespace Go.Proofs.Ytgkphogefpmeaaa
open Go.RowKit Go.Maps DkM

/-- What holds of a disk of which at most N ops and reads were done. -/
structure Iv (N : Nat) (S : Dk) : Prop where
  fuse0 : -1 ≤ S.fuse
  fuse1 : S.fuse ≤ 9223372036854775807
  ops0 : 0 ≤ S.ops
  ops1 : S.ops ≤ N
  reads0 : 0 ≤ S.reads
  reads1 : S.reads ≤ N
  len : S.L.length ≤ N
  used : S.used = (usd S.L : Nat)
  room : (usd S.L : Int) ≤ S.lim
  lim0 : 0 ≤ S.lim
  lim1 : S.lim ≤ 1073741824
  rise : Rise S.L
  right : ∀ f ∈ S.L, Rgt f.n = true
theorem Iv.bd {N : Nat} {S : Dk} (h : Iv N S) (hN : N ≤ 1048576) : Bd S := by
  obtain ⟨h1, h2, h3, h4, h5, h6, h7, h8, h9, h10, h11, h12, _⟩ := h
  exact ⟨h1, h2, h3, by omega, h5, by omega, by omega, h8, by omega, h10, h11, h12⟩
theorem rgt_size {n : ByteArray} (h : Rgt n = true) : 1 ≤ n.size ∧ n.size ≤ 20 := by
  unfold Rgt at h
  simp only [Bool.and_eq_true, decide_eq_true_eq] at h
  exact h.1
theorem Iv.names {N : Nat} {S : Dk} (h : Iv N S) : ∀ f ∈ S.L, f.n.size ≤ maxLen := fun f hf => by have := rgt_size (h.right f hf); unfold maxLen; omega
theorem Iv.mono {N M : Nat} {S : Dk} (h : Iv N S) (hM : N ≤ M) : Iv M S := by
  obtain ⟨h1, h2, h3, h4, h5, h6, h7, h8, h9, h10, h11, h12, h13⟩ := h
  exact ⟨h1, h2, h3, by omega, h5, by omega, by omega, h8, h9, h10, h11, h12, h13⟩
theorem Iv.new (lim : Int) : Iv 0 (newS lim) := by
  unfold newS
  exact ⟨by simp, by simp, by simp, by simp, by simp, by simp, by simp, rfl, by show (0 : Int) ≤ _; simp only; omega, by simp only; omega, by simp only; omega, List.Pairwise.nil, by simp⟩
theorem Iv.down {N : Nat} {S : Dk} (h : Iv N S) : Iv N { S with down := true } := by
  obtain ⟨h1, h2, h3, h4, h5, h6, h7, h8, h9, h10, h11, h12, h13⟩ := h
  exact ⟨h1, h2, h3, h4, h5, h6, h7, h8, h9, h10, h11, h12, h13⟩
theorem Iv.tick {N : Nat} {S : Dk} (h : Iv N S) : Iv (N + 1) (tick S) := by
  obtain ⟨h1, h2, h3, h4, h5, h6, h7, h8, h9, h10, h11, h12, h13⟩ := h
  unfold Go.Proofs.Ytgkphogefpmeaaa.tick
  exact ⟨by simp only; omega, by simp only; omega, by simp only; omega, by simp only; omega, h5, by simp only; omega, by simp only; omega, h8, h9, h10, h11, h12, h13⟩
/-- With other files, behind a tick. -/
theorem Iv.files {N : Nat} {S : Dk} (h : Iv N S) {L : List Fl} {u : Int} (hu : u = (usd L : Nat)) (hr : (usd L : Int) ≤ S.lim) (hL : L.length ≤ N + 1) (hR : Rise L) (hn : ∀ f ∈ L, Rgt f.n = true) : Iv (N + 1) { Go.Proofs.Ytgkphogefpmeaaa.tick S with L := L, used := u } := by
  obtain ⟨h1, h2, h3, h4, h5, h6, h7, h8, h9, h10, h11, h12, h13⟩ := h.tick
  exact ⟨h1, h2, h3, h4, h5, h6, hL, hu, hr, h10, h11, hR, hn⟩
theorem Iv.opR {N : Nat} {S S' : Dk} {e : Nat} (h : Iv N S) (h' : e = 0 → Iv (N + 1) S') : Iv (N + 1) (opR S e S').1 := by
  unfold Go.Proofs.Ytgkphogefpmeaaa.opR
  split
  · exact h.mono (by omega)
  · split
    · exact h.mono (by omega)
    · split
      · exact h.down.mono (by omega)
      · rename_i he _
        exact h' (by simpa using he)
theorem whyC_zero {L : List Fl} {n : ByteArray} (h : whyC L n = 0) : Rgt n = true ∧ lkF L n = none := by
  unfold whyC at h
  split at h
  · rename_i hh
    exact ⟨hh.1, by cases hl : lkF L n with | none => rfl | some f => rw [hl] at hh; simp at hh⟩
  · cases h
theorem Iv.doC {N : Nat} {S : Dk} (h : Iv N S) (n : ByteArray) : Iv (N + 1) (doC S n).1 := by
  unfold Go.Proofs.Ytgkphogefpmeaaa.doC
  refine h.opR fun he => ?_
  obtain ⟨hr, hl⟩ := whyC_zero he
  have hu := usd_put h.rise ⟨n, nul, nul⟩
  simp only [hl, flS] at hu
  have z : nul.size = 0 := rfl
  rw [z] at hu
  have e : ({ Go.Proofs.Ytgkphogefpmeaaa.tick S with L := putF S.L ⟨n, nul, nul⟩ } : Dk) = { Go.Proofs.Ytgkphogefpmeaaa.tick S with L := putF S.L ⟨n, nul, nul⟩, used := S.used } := rfl
  rw [e]
  have h8 := h.used
  have h9 := h.room
  exact h.files (by omega) (by omega) (by have := len_put S.L ⟨n, nul, nul⟩; have := h.len; omega) (h.rise.put _) (fun f hf => by
    rcases mem_put.1 hf with rfl | ⟨h1, _⟩
    · exact hr
    · exact h.right f h1)
theorem whyA_zero {S : Dk} {n t : ByteArray} (h : whyA S n t = 0) : (∃ f, lkF S.L n = some f) ∧ (t.size : Int) ≤ S.lim - S.used := by
  unfold whyA at h
  split at h
  · cases h
  · rename_i h1
    split at h
    · cases h
    · rename_i h2
      refine ⟨Option.isSome_iff_exists.1 (by cases hq : (lkF S.L n).isSome with | true => rfl | false => exact absurd hq h1), by omega⟩
theorem len_put_at {L : List Fl} {f : Fl} (hR : Rise L) {g : Fl} (hl : lkF L f.n = some g) : (putF L f).length = L.length := by
  obtain ⟨h1, h2⟩ := lkF_some hl
  obtain ⟨A, B, rfl⟩ := List.append_of_mem h1
  rw [put_at hR h2.symm]
  simp
theorem Iv.doA {N : Nat} {S : Dk} (h : Iv N S) (n t : ByteArray) : Iv (N + 1) (doA S n t).1 := by
  unfold Go.Proofs.Ytgkphogefpmeaaa.doA
  refine h.opR fun he => ?_
  obtain ⟨⟨f, hl⟩, hr⟩ := whyA_zero he
  unfold didA
  rw [hl]
  simp only [Option.getD_some]
  have hu := usd_put h.rise ⟨n, f.s, f.l ++ t⟩
  simp only [hl, app_size, flS] at hu
  have h8 := h.used
  have h9 := h.room
  exact h.files (by omega) (by omega) (by have := len_put S.L ⟨n, f.s, f.l ++ t⟩; have := h.len; omega) (h.rise.put _) (fun g hg => by
    rcases mem_put.1 hg with rfl | ⟨h1, _⟩
    · obtain ⟨hf, he⟩ := lkF_some hl
      have := h.right f hf
      rw [he] at this
      exact this
    · exact h.right g h1)
theorem Iv.doS {N : Nat} {S : Dk} (h : Iv N S) (n : ByteArray) : Iv (N + 1) (doS S n).1 := by
  unfold Go.Proofs.Ytgkphogefpmeaaa.doS
  refine h.opR fun he => ?_
  obtain ⟨f, hl⟩ := thr_zero he
  unfold didS gotF
  rw [hl]
  simp only [Option.getD_some]
  have hu := usd_put h.rise ⟨n, f.s ++ f.l, nul⟩
  simp only [hl, app_size, flS] at hu
  have z : nul.size = 0 := rfl
  rw [z] at hu
  have e : ({ Go.Proofs.Ytgkphogefpmeaaa.tick S with L := putF S.L ⟨n, f.s ++ f.l, nul⟩ } : Dk) = { Go.Proofs.Ytgkphogefpmeaaa.tick S with L := putF S.L ⟨n, f.s ++ f.l, nul⟩, used := S.used } := rfl
  rw [e]
  have h8 := h.used
  have h9 := h.room
  exact h.files (by omega) (by omega) (by have := len_put S.L ⟨n, f.s ++ f.l, nul⟩; have := h.len; omega) (h.rise.put _) (fun g hg => by
    rcases mem_put.1 hg with rfl | ⟨h1, _⟩
    · obtain ⟨hf, he⟩ := lkF_some hl
      have := h.right f hf
      rw [he] at this
      exact this
    · exact h.right g h1)
theorem flB_size {L : List Fl} {n : ByteArray} : (flB (lkF L n)).size = flS (lkF L n) := by
  cases lkF L n with
  | none => rfl
  | some f => show (f.s ++ f.l).size = _; rw [app_size]; rfl
theorem Iv.doD {N : Nat} {S : Dk} (h : Iv N S) (n : ByteArray) : Iv (N + 1) (doD S n).1 := by
  unfold Go.Proofs.Ytgkphogefpmeaaa.doD
  refine h.opR fun he => ?_
  unfold didD
  have hu := usd_wo h.rise n
  have hf := flB_size (L := S.L) (n := n)
  rw [← hf] at hu
  have h8 := h.used
  have h9 := h.room
  exact h.files (by omega) (by omega) (by have := len_wo S.L n; have := h.len; omega) (h.rise.wo _) (fun g hg => h.right g (mem_wo.1 hg).1)
theorem whyR_zero {S : Dk} {a c : ByteArray} (h : whyR S a c = 0) : Rgt c = true ∧ ∃ f, lkF S.L a = some f := by
  unfold whyR at h
  split at h
  · rename_i h1
    exact ⟨h1, thr_zero h⟩
  · cases h
theorem usd_ren {L : List Fl} (h : Rise L) {a c : ByteArray} (hne : a ≠ c) {f : Fl} (hl : lkF L a = some f) : usd (wo (putF L ⟨c, f.s, f.l⟩) a) + (flB (lkF L c)).size = usd L := by
  have hu := usd_put h ⟨c, f.s, f.l⟩
  have hw := usd_wo (h.put ⟨c, f.s, f.l⟩) a
  rw [lkF_put_other h _ (by exact hne), hl] at hw
  rw [flB_size]
  simp only [flS] at hu hw
  simp only [flS]
  omega
theorem Iv.doR {N : Nat} {S : Dk} (h : Iv N S) (a c : ByteArray) : Iv (N + 1) (doR S a c).1 := by
  unfold Go.Proofs.Ytgkphogefpmeaaa.doR
  refine h.opR fun he => ?_
  obtain ⟨hr, f, hl⟩ := whyR_zero he
  unfold didR gotF
  split
  · exact h.tick
  · rename_i hq
    rw [hl]
    simp only [Option.getD_some]
    have hu := usd_ren h.rise (c := c) (fun e => hq (eqN_iff.2 e)) hl
    have h8 := h.used
    have h9 := h.room
    exact h.files (by omega) (by omega) (by have := len_wo (putF S.L ⟨c, f.s, f.l⟩) a; have := len_put S.L ⟨c, f.s, f.l⟩; have := h.len; omega) ((h.rise.put _).wo _) (fun g hg => by
      rcases mem_put.1 (mem_wo.1 hg).1 with rfl | ⟨h1, _⟩
      · exact hr
      · exact h.right g h1)
theorem crF_names (L : List Fl) (ks : List Int) : (crF L ks).map (·.n) = L.map (·.n) := by
  induction L generalizing ks with
  | nil => rfl
  | cons f r ih =>
    unfold crF
    split
    · simp [ih]
    · simp only [List.map_cons, ih]; rfl
theorem crF_rise {L : List Fl} (h : Rise L) (ks : List Int) : Rise (crF L ks) := by
  have e : ∀ M : List Fl, Rise M ↔ (M.map (·.n)).Pairwise (fun a b => bf a b = true) := fun M => by unfold Rise; rw [List.pairwise_map]
  rw [e, crF_names, ← e]
  exact h
theorem crF_usd (L : List Fl) (ks : List Int) : usd (crF L ks) ≤ usd L := by
  induction L generalizing ks with
  | nil => exact Nat.le_refl _
  | cons f r ih =>
    unfold crF
    split
    · have := ih ks; simp only [usd]; omega
    · have := ih ks.tail
      have hz := crO_size f (ks.headD 0)
      have hm : clK f.l.size (ks.headD 0) ≤ f.l.size := by unfold clK; omega
      simp only [usd]; omega
theorem crF_right {L : List Fl} (h : ∀ f ∈ L, Rgt f.n = true) (ks : List Int) : ∀ f ∈ crF L ks, Rgt f.n = true := by
  intro f hf
  have : f.n ∈ (crF L ks).map (·.n) := List.mem_map.2 ⟨f, hf, rfl⟩
  rw [crF_names] at this
  obtain ⟨g, hg, he⟩ := List.mem_map.1 this
  rw [← he]; exact h g hg
theorem Iv.crash {N : Nat} {S : Dk} (h : Iv N S) (ks : List Int) : Iv N (doCr S ks) := by
  obtain ⟨h1, h2, h3, h4, h5, h6, h7, h8, h9, h10, h11, h12, h13⟩ := h
  unfold doCr
  exact ⟨by simp, by simp, h3, h4, h5, h6, by rw [crF_len]; exact h7, rfl, by have := crF_usd S.L ks; simp only; omega, h10, h11, crF_rise h12 ks, crF_right h13 ks⟩
theorem Iv.read {N : Nat} {S : Dk} (h : Iv N S) (n : ByteArray) (a : Int) : Iv (N + 1) (doRd S n a) := by
  unfold doRd
  split
  · obtain ⟨h1, h2, h3, h4, h5, h6, h7, h8, h9, h10, h11, h12, h13⟩ := h
    exact ⟨h1, h2, h3, by simp only; omega, by simp only; omega, by simp only; omega, by simp only; omega, h8, h9, h10, h11, h12, h13⟩
  · exact h.mono (by omega)
theorem Iv.fuse {N : Nat} {S : Dk} (h : Iv N S) (n : Int) (hn : n ≤ 9223372036854775807) : Iv N { S with fuse := max n (-1) } := by
  obtain ⟨h1, h2, h3, h4, h5, h6, h7, h8, h9, h10, h11, h12, h13⟩ := h
  exact ⟨by simp only; omega, by simp only; omega, h3, h4, h5, h6, h7, h8, h9, h10, h11, h12, h13⟩

/-- What comes of one op of a script. -/
def doOp (S : Dk) (o : Op5) (ks : List Int) : Dk × Nat :=
  if o.k = 0 then doC S o.a else if o.k = 1 then doA S o.a o.b else if o.k = 2 then doS S o.a else if o.k = 3 then doR S o.a o.b else if o.k = 4 then doD S o.a else
  if o.k = 5 then (doRd S o.a o.n, (rdS S o.a o.n).2) else if o.k = 6 then ({ S with fuse := max o.n (-1) }, 0) else if o.k = 7 then (doCr S ks, 0) else (S, 0)
theorem Iv.doOp {N : Nat} {S : Dk} (h : Iv N S) {o : Op5} (ho : OkOp o) (ks : List Int) : Iv (N + 1) (doOp S o ks).1 := by
  unfold Go.Proofs.Ytgkphogefpmeaaa.doOp
  split
  · exact h.doC _
  split
  · exact h.doA _ _
  split
  · exact h.doS _
  split
  · exact h.doR _ _
  split
  · exact h.doD _
  split
  · exact h.read _ _
  split
  · exact (h.fuse _ ho.n1).mono (by omega)
  split
  · exact (h.crash _).mono (by omega)
  · exact h.mono (by omega)
end Go.Proofs.Ytgkphogefpmeaaa
