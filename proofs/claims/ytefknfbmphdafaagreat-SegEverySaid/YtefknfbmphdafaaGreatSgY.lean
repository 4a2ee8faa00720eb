/- All frames of a disk: the walk. -/
import Derived.Test.YtefknfbmphdafaaGreatSgX
import Derived.Laws.AppendOwnNone
namespace Go.Proofs.YtefknfbmphdafaaGreat
namespace SgM
open Go Go.RowKit CrcM FrM
open Ds (Blk DiskAt Kp Bd flB nul ptr Dk)
open Ds.DkM (Fl lkF usd)

def evY (S : Dk) (f : Fl) : ByteArray := if whE S f.n = 0 then whX S f.n else nul
def evF (S : Dk) (f : Fl) : List Fr := fnd (evY S f) (evY S f).size
def evS (S : Dk) (L : List Fl) : List Fr := L.flatMap (evF S)
def rdN (S : Dk) (L : List Fl) : Nat := (L.map fun f => whN S f.n).sum
theorem evS_take (S : Dk) (L : List Fl) (k : Nat) (h : k < L.length) : evS S (L.take (k + 1)) = evS S (L.take k) ++ evF S L[k] := by
  rw [List.take_succ_eq_append_getElem h]; unfold evS; rw [List.flatMap_append]; simp
theorem rdN_take (S : Dk) (L : List Fl) (k : Nat) (h : k < L.length) : rdN S (L.take (k + 1)) = rdN S (L.take k) + whN S L[k].n := by
  rw [List.take_succ_eq_append_getElem h]; unfold rdN; rw [List.map_append, List.sum_append]; simp only [List.map_cons, List.map_nil, List.sum_cons, List.sum_nil, Nat.add_zero]
theorem whX_le (S : Dk) (n : ByteArray) : (whX S n).size ≤ usd S.L := by
  unfold whX
  cases hl : lkF S.L n with
  | none => exact Nat.zero_le _
  | some f =>
    have h2 := Ds.DkM.usd_le (Ds.DkM.lkF_some hl).1
    simp only [ByteArray.size_append]
    omega
theorem evY_le (S : Dk) (f : Fl) : (evY S f).size ≤ usd S.L := by
  unfold evY
  split
  · exact whX_le S f.n
  · exact Nat.zero_le _
theorem evS_le (S : Dk) (L : List Fl) : (evS S L).length ≤ L.length * usd S.L := by
  induction L with
  | nil => simp [evS]
  | cons f r ih =>
    have h1 := fnd_le (evY S f) (evY S f).size
    have h2 := evY_le S f
    have : evS S (f :: r) = evF S f ++ evS S r := by unfold evS; simp
    rw [this, List.length_append, List.length_cons, Nat.add_mul, Nat.one_mul]
    unfold evF
    omega
theorem whN_le (S : Dk) (n : ByteArray) : whN S n ≤ usd S.L + 1 := by
  have := whX_le S n
  unfold whN
  split <;> omega
theorem rdN_le (S : Dk) (L : List Fl) : rdN S L ≤ L.length * (usd S.L + 1) := by
  induction L with
  | nil => simp [rdN]
  | cons f r ih =>
    have h1 := whN_le S f.n
    have : rdN S (f :: r) = whN S f.n + rdN S r := by unfold rdN; simp
    rw [this, List.length_cons, Nat.add_mul, Nat.one_mul]
    omega
theorem disk_grown {w w' : World} {p b : Nat} {S : Dk} {r : Option Nat} (h : DiskAt w p b S) (hg : w.grownBy w' r) (h1 : some p ≠ r) (h2 : some b ≠ r) : DiskAt w' p b S :=
  ⟨(hg.block p h.blk.lt h1).trans h.blk, h.own.kept hg h2⟩
theorem kp_grown {w0 w w' : World} {p b : Nat} {r : Option Nat} (h : Kp p b w0 w) (hg : w.grownBy w' r) (hr : ∀ k, r = some k → w0.heap.size ≤ k) : Kp p b w0 w' :=
  ⟨hg.os.trans h.os, hg.tape.trans h.tape, hg.output.trans h.output, Nat.le_trans h.size hg.size, fun k hk h1 h2 => (hg.block k (by have := h.size; omega) (fun e => by have := hr k e.symm; omega)).trans (h.block k hk h1 h2)⟩
theorem own_kp {w w' : World} {base size n p b : Nat} {T : TypeId} {v : Value} {xs : List Value} (h : w.ownsRow base T size v n xs) (hk : Kp p b w w') (hp : p < base) (hb : b < base) : w'.ownsRow base T size v n xs := by
  refine ⟨h.1, ?_⟩
  rcases h.2 with h2 | ⟨g, cap, cur, h1, h2, h3, h4⟩
  · exact Or.inl h2
  · exact Or.inr ⟨g, cap, cur, h1, h2, (hk.block g (Array.getElem?_eq_some_iff.1 h3).1 (by omega) (by omega)).trans h3, h4⟩
theorem frC_app (l m : List Fr) : frC (l ++ m) = frC l ++ frC m := by
  induction l with
  | nil => rfl
  | cons a r ih => show _ :: _ :: frC (r ++ m) = _; rw [ih]; rfl
theorem frC_one (l : List Fr) : ∀ u ∈ frC l, u.oneCell' = true := by
  induction l with
  | nil => intro u hu; cases hu
  | cons a r ih =>
    intro u hu
    have hu' : u ∈ (.int .u8 (a.1.toNat : Int) : Value) :: .string a.2 :: frC r := hu
    rcases List.mem_cons.1 hu' with rfl | hu'
    · rfl
    · rcases List.mem_cons.1 hu' with rfl | hu'
      · rfl
      · exact ih u hu'
def EveryPost (S : Dk) (p b : Nat) (w : World) (e : Ending) (w' : World) : Prop :=
  ∃ v, e = .returned v ∧ w'.ownsRow w.heap.size 50 2 v (evS S S.L).length (frC (evS S S.L)) ∧ DiskAt w' p b { S with reads := S.reads + (rdN S S.L : Nat) } ∧ Kp p b w w'

set_option maxRecDepth 100000 in
set_option maxHeartbeats 4000000 in
theorem every_any {w : World} {p b : Nat} {S : Dk} (hD : DiskAt w p b S) (hB : Bd S) (hu : usd S.L ≤ 5000) (hlen : S.L.length ≤ 100) (hr : S.reads ≤ 1000) (hnm : ∀ f ∈ S.L, f.n.size ≤ Go.maxLen) :
    Calls Tryz.prog 14 #[ptr p] w (EveryPost S p b w) := by
  obtain ⟨i0, hi, hz0, hz1, hz2⟩ := info_parts info_frameRow
  have hpl := hD.blk.lt
  have hbl := hD.own.lt
  have HBd := Lib.hid hB
  have HF := Lib.hid (Ds.files_any hD hB)
  have HNM := Lib.hid hnm
  have HD := Lib.hid hD
  obtain ⟨n, hn⟩ : ∃ n, n = S.L.length := ⟨_, rfl⟩
  have HN := Lib.hid hn
  rw [← hn] at hlen
  clear hD hB hnm hn
  go_enter Tryz.func14, Tryz.ntmps14
  go_wp2_with (go_at_call 18; refine HF.out.mono ?_; rintro e w1 ⟨vn, rfl, hN1, hb1⟩; obtain ⟨A, cap, rfl, hc⟩ := hN1; rw [← HN.out]; have HC := Lib.hid hc; have HD1 := Lib.hid (HD.out.belowS hb1); have HK1 := Lib.hid (Kp.of_below (p := p) (b := b) hb1); have hs1 := hb1.size; clear hc hb1)
  go_loopw [3, 11] (fun v i wr => ∃ k, k ≤ n ∧ i = .int .i64 (k : Nat) ∧ wr.ownsRow w1.heap.size 50 2 v (evS S (S.L.take k)).length (frC (evS S (S.L.take k))) ∧ DiskAt wr p b { S with reads := S.reads + (rdN S (S.L.take k) : Nat) } ∧ Kp p b w1 wr) (fun _ i _ => n - (intOf i).toNat)
  case atStart => exact ⟨0, Nat.zero_le _, rfl, World.ownsRow_nil _ _ _ _, by simpa [rdN] using HD1.out, Kp.refl _ _ _⟩
  case round =>
    obtain ⟨k, hk, rfl, hown, hDk, hKk⟩ := hrel
    by_cases hlk : k < n
    · have hlk' : k < S.L.length := by rw [← HN.out]; exact hlk
      obtain ⟨g, rfl, hgb, hgl, hcl⟩ := HC.out (by omega)
      have c0 : wr.cell? ⟨g, k, none⟩ = some (.string S.L[k].n) := (hKk.cell (by exact hgl) (by simp; omega) (by simp; omega)).trans (hcl k hlk')
      have ht := evS_take S S.L k hlk'
      have hrt := rdN_take S S.L k hlk'
      have hnf := HNM.out _ (List.getElem_mem hlk')
      clear hcl
      generalize S.L[k] = f at c0 ht hrt hnf
      have hrn := rdN_le S (S.L.take k)
      have hev := evS_le S (S.L.take k)
      have htk : (S.L.take k).length ≤ 100 := by rw [List.length_take]; omega
      have hr2 : rdN S (S.L.take k) ≤ 500100 := Nat.le_trans hrn (by
        have := Nat.mul_le_mul htk (show usd S.L + 1 ≤ 5001 by omega); omega)
      have he2 : (evS S (S.L.take k)).length ≤ 500000 := Nat.le_trans hev (by
        have := Nat.mul_le_mul htk hu; omega)
      have hr0 := HBd.out.reads0
      have WP := whole_any hDk (bd_reads HBd.out _ (by omega) (by omega)) (show S.reads + (rdN S (S.L.take k) : Nat) ≤ 1000000 by omega) hnf
      have WH := Lib.hid (show Calls Tryz.prog 23 #[ptr p, .string f.n] wr fun e w' => e = .returned (.tuple #[.string (evY S f), .int .i64 (whE S f.n : Nat)]) ∧ DiskAt w' p b { S with reads := S.reads + (rdN S (S.L.take (k + 1)) : Nat) } ∧ Kp p b wr w' by
        refine WP.mono ?_
        rintro e w' ⟨h1, h2, h3⟩
        refine ⟨h1, ?_, h3⟩
        have e3 : S.reads + (rdN S (S.L.take k) : Nat) + (whN S f.n : Nat) = S.reads + (rdN S (S.L.take (k + 1)) : Nat) := by rw [hrt]; omega
        rw [← e3]
        exact h2)
      have hY := evY_le S f
      have HT := Lib.hid (show evS S (S.L.take (k + 1)) = evS S (S.L.take k) ++ fnd (evY S f) (evY S f).size from ht)
      generalize evY S f = Y at WH hY HT
      generalize whE S f.n = E at WH
      have hYf := fnd_le Y Y.size
      have HOW := Lib.hid hown
      have HKk := Lib.hid hKk
      have hws : w1.heap.size ≤ wr.heap.size := hKk.size
      have hgr : g < wr.heap.size := by omega
      clear hown hDk hKk WP ht hrt hnf hrn hev htk hr2
      go_wp2_with (go_at_call 23; refine WH.out.mono ?_; rintro e w2 ⟨rfl, hD2, hK2⟩; have HOW2 := Lib.hid (own_kp HOW.out hK2 (by omega) (by omega)); have HD2 := Lib.hid hD2; have HK2 := Lib.hid (HKk.out.trans hK2); have hs2 := hK2.size; clear hD2 hK2)
      refine (find_any Y _ (by omega)).mono ?_
      rintro e w3 ⟨vf, rfl, hf, hb3⟩
      have HOW3 := Lib.hid (ownsRow_below' HOW2.out hb3)
      have HD3 := Lib.hid (HD2.out.belowS hb3)
      have HK3 := Lib.hid (HK2.out.trans (Kp.of_below hb3))
      have hs3 := hb3.size
      rcases hf.2 with ⟨rfl, h0⟩ | ⟨gf, capf, cur, rfl, hgf, hgh, _⟩
      · have hz : fnd Y Y.size = [] := List.length_eq_zero_iff.1 h0
        have HT2 := Lib.hid (show evS S (S.L.take (k + 1)) = evS S (S.L.take k) by rw [HT.out, hz, List.append_nil])
        clear hf hb3 h0 hz
        go_wp2_with (at_builtin; refine wpList_append_own_none rfl _ _ 47 rfl w1.heap.size 50 i0 2 Tryz.underlying47 hi _ _ _ rfl HOW3.out rfl ?_)
        go_roundw
        case rel => exact ⟨k + 1, by omega, by go_num, by rw [HT2.out]; exact HOW3.out, HD3.out, HK3.out⟩
        case measure => simp [intOf]; omega
      · have hcf : ∀ j u, (frC (fnd Y Y.size))[j]? = some u → w3.cell? ((⟨gf, 0, none⟩ : Addr).add j) = some u := hf.cells rfl
        have hlf : (frC (fnd Y Y.size)).length = (fnd Y Y.size).length * 2 := hf.1
        have HCF := Lib.hid hcf
        clear hf hb3 hcf
        go_wp2_with (at_builtin; refine wpList_append_own _ rfl _ _ 47 rfl w1.heap.size 50 i0 (.agg #[.int .u8 0, .string ⟨#[]⟩]) 2 24 Tryz.underlying47 hi hz0 hz1 hz2 rfl (by decide) _ _ _ rfl HOW3.out ⟨gf, 0, none⟩ (fnd Y Y.size).length capf (frC (fnd Y Y.size)) rfl hlf HCF.out (frC_one _) (by unfold maxLen; omega) (by omega) (by omega) ?_; intro v' w' hown' hgrow _; have HOW4 := Lib.hid hown'; have HD4 := Lib.hid (disk_grown HD3.out hgrow (fun e => by have := (HOW3.out.lt _ e.symm).1; omega) (fun e => by have := (HOW3.out.lt _ e.symm).1; omega)); have HK4 := Lib.hid (kp_grown HK3.out hgrow (fun k hk => (HOW3.out.lt k hk).1)); clear hown' hgrow)
        go_roundw
        case rel => exact ⟨k + 1, by omega, by go_num, by rw [HT.out, List.length_append, frC_app]; exact HOW4.out, HD4.out, HK4.out⟩
        case measure => simp [intOf]; omega
    · obtain rfl : n = k := by omega
      rw [show S.L.take n = S.L by rw [HN.out, List.take_length]] at hown hDk
      have HO := Lib.hid hown
      have HDk := Lib.hid hDk
      have HKk := Lib.hid hKk
      clear hown hDk hKk
      go_wp2
      go_ret
      exact ⟨_, rfl, own_lower HO.out hs1, HDk.out, HK1.out.trans HKk.out⟩
end SgM
end Go.Proofs.YtefknfbmphdafaaGreat
