/- The walk of read: places of a frame, and what may stand there. -/
import Derived.Test.YtidnoeahmnfodaaFrA
import Derived.Laws.EntriesVeiled
namespace Go.Proofs.Ytidnoeahmnfodaa
open Go.RowKit CrcM FrM

def rdE : List UInt8 → List (Nat × (UInt8 → Bool)) → Nat
  | _, [] => 0
  | s, (n, p) :: L => if (s.take n).all p = false then 44 else if s.length < n then 43 else rdE (s.drop n) L
theorem extract_list (x : ByteArray) (a b : Nat) : (x.extract a b).data.toList = (x.data.toList.take b).drop a := by
  rw [ByteArray.data_extract]
  simp [List.drop_take]
theorem extract_size (x : ByteArray) (a b : Nat) : (x.extract a b).size = min b x.size - a := ByteArray.size_extract
/-- Places of a frame, in memory. -/
structure PlaceRow (w : World) (b : Nat) (L : List (Nat × FuncId × (UInt8 → Bool))) : Prop where
  long : ∀ j (h : j < L.length), w.cell? ⟨b, j * 2, none⟩ = some (.int .i64 (L[j].1 : Nat))
  may : ∀ j (h : j < L.length), w.cell? ⟨b, j * 2 + 1, none⟩ = some (.func (.func L[j].2.1) #[] #[])
def PlacesOk (L : List (Nat × FuncId × (UInt8 → Bool))) : Prop := ∀ x ∈ L, Tests x.2.1 x.2.2 ∧ x.1 ≤ 2000
def plc (L : List (Nat × FuncId × (UInt8 → Bool))) : List (Nat × (UInt8 → Bool)) := L.map fun x => (x.1, x.2.2)
def ReadPost (code : Nat) (w : World) (e : Ending) (w' : World) : Prop := ∃ r : ByteArray, e = .returned (.tuple #[.string r, .int .i64 code]) ∧ Below w.heap.size w w'
theorem und_func : Try.prog.underlying 54 = Try.prog.underlying 54 := rfl

set_option maxRecDepth 100000 in
set_option maxHeartbeats 1000000 in
theorem read_any (s : ByteArray) (b n : Nat) (L : List (Nat × FuncId × (UInt8 → Bool))) (hn : n = L.length) (hl : n ≤ 3) (w : World) (hs : s.size ≤ 9223372036854775807) (hL : PlacesOk L) (hp : PlaceRow w b L) (hbw : b < w.heap.size) :
    Calls Try.prog 32 #[.string s, .slice (some ⟨b, 0, none⟩) n n] w (ReadPost (rdE s.data.toList (plc L)) w) := by
  have HN := Lib.hid hn
  have HP := Lib.hid hp
  have HL := Lib.hid hL
  clear hn hp hL
  go_enter Try.func32, Try.ntmps32
  go_wp2
  go_loopw [0, 11] (fun x i wr => ∃ (j : Nat) (t : ByteArray), j ≤ n ∧ t.size ≤ s.size ∧ rdE s.data.toList (plc L) = rdE t.data.toList ((plc L).drop j) ∧ i = .int .i64 j ∧ x = .string t ∧ Below w.heap.size w wr) (fun _ i _ => n - (intOf i).toNat)
  case atStart => exact ⟨0, s, Nat.zero_le _, Nat.le_refl _, rfl, rfl, rfl, Below.refl _ _⟩
  case round =>
    obtain ⟨j, t, hj, hts, hrd, rfl, rfl, hb⟩ := hrel
    have HRD := Lib.hid hrd
    clear hrd
    by_cases hlt : j < n
    · have hjL : j < L.length := by rw [← HN.out]; exact hlt
      obtain ⟨m, hm⟩ : ∃ m, m = L[j].1 := ⟨_, rfl⟩
      obtain ⟨f, hf⟩ : ∃ f, f = L[j].2.1 := ⟨_, rfl⟩
      obtain ⟨p, hpp⟩ : ∃ p, p = L[j].2.2 := ⟨_, rfl⟩
      have hc0 : wr.cell? ⟨b, j * 2, none⟩ = some (.int .i64 (m : Nat)) := by rw [hb.cell hbw, hm]; exact HP.out.long j hjL
      have hc1 : wr.cell? ⟨b, j * 2 + 1, none⟩ = some (.func (.func f) #[] #[]) := by rw [hb.cell hbw, hf]; exact HP.out.may j hjL
      have hok := HL.out L[j] (List.getElem_mem _)
      rw [← hm, ← hf, ← hpp] at hok
      obtain ⟨hT, hm2⟩ := hok
      have HT := Lib.hid hT
      have HRD2 := Lib.hid (show rdE s.data.toList (plc L) = if (t.data.toList.take m).all p = false then 44 else if t.data.toList.length < m then 43 else rdE (t.data.toList.drop m) ((plc L).drop (j + 1)) by
        rw [HRD.out, List.drop_eq_getElem_cons (show j < (plc L).length by simp [plc]; exact hjL)]
        have e : (plc L)[j]'(by simp [plc]; exact hjL) = (m, p) := by simp [plc, hm, hpp]
        rw [e]; rfl)
      clear hm hf hpp hT
      have hsl := size_list t
      have HSL := Lib.hid hsl
      clear hsl
      obtain ⟨q, hq⟩ : ∃ q, q = min m t.size := ⟨_, rfl⟩
      have hmin : min (m : Int) (t.size : Int) = (q : Int) := by omega
      have hqm : q ≤ m := by omega
      have hqt : q ≤ t.size := by omega
      have HQS := Lib.hid (show q < m → t.data.toList.length < m by have := HSL.out; omega)
      have HQG := Lib.hid (show ¬ q < m → ¬ t.data.toList.length < m ∧ q = m by have := HSL.out; omega)
      have HTK := Lib.hid (show t.data.toList.take q = t.data.toList.take m by
        rw [hq, ← List.take_take, HSL.out, List.take_length])
      clear hq
      have hxs : (t.extract 0 q).size ≤ 9223372036854775807 := by rw [extract_size]; omega
      have i0 : (0 : Int) ≤ (q : Int) := by omega
      have i1 : (q : Int) ≤ (t.size : Int) := by omega
      go_wp2
      obtain ⟨W, hW⟩ : ∃ W, W = wr.alloc (.cells #[.int .i64 m, .func (.func f) #[] #[]] 63) := ⟨_, rfl⟩
      have k0 : W.cell? ⟨wr.heap.size, 0, none⟩ = some (.int .i64 m) := by rw [hW]; simp
      have k1 : W.cell? ⟨wr.heap.size, 1, none⟩ = some (.func (.func f) #[] #[]) := by rw [hW]; simp
      have hWs : wr.heap.size < W.heap.size := by rw [hW]; simp
      have hbW : Below w.heap.size w W := by rw [hW]; exact hb.alloc hb.size _
      rw [← hW]
      clear hW
      go_region_held3 (fun w' => (w'.cell? ⟨wr.heap.size, 0, none⟩ = some (.int .i64 m) ∧ w'.cell? ⟨wr.heap.size, 1, none⟩ = some (.func (.func f) #[] #[])) ∧ Below W.heap.size W w')
        (first | exact ⟨⟨k0, k1⟩, below_draw⟩ | exact ⟨⟨(hb3.cell hWs).trans k0, (hb3.cell hWs).trans k1⟩, hb3⟩ | exact (by assumption))
        (first | (go_at_call 25; refine (wrong_any (t.extract 0 q) f p HT.out _ hxs).mono ?_; rintro e w2 ⟨rfl, hb2⟩; have hb3 : Below W.heap.size W w2 := below_draw.trans hb2) | fail)
      have hbW2 := hbW.trans (hb3.mono hbW.size)
      have k2 : w2.cell? ⟨wr.heap.size, 0, none⟩ = some (.int .i64 m) := (hb3.cell hWs).trans k0
      clear hb2 hb3 k0 k1 hc0 hc1
      generalize hA : (t.data.toList.take q).all p = A
      have HA := Lib.hid hA
      clear hA
      cases A with
      | true =>
        by_cases hsh : q < m
        · have HR := Lib.hid (show rdE s.data.toList (plc L) = 43 by rw [HRD2.out, ← HTK.out, if_neg (by rw [HA.out]; decide), if_pos (HQS.out hsh)])
          go_wp2
          go_ret2
          exact ⟨_, by rw [HR.out]; rfl, hbW2⟩
        · obtain ⟨g1, g2⟩ := HQG.out hsh
          have HR := Lib.hid (show rdE s.data.toList (plc L) = rdE (t.extract m t.size).data.toList ((plc L).drop (j + 1)) by
            rw [HRD2.out, ← HTK.out, if_neg (by rw [HA.out]; decide), if_neg g1, extract_list, HSL.out, List.take_length])
          clear g1
          subst g2
          have HZ := Lib.hid (show (t.extract q t.size).size ≤ s.size by rw [extract_size]; omega)
          go_wp2
          go_roundw
          case rel => exact ⟨j + 1, t.extract q t.size, by omega, HZ.out, HR.out, by go_num, rfl, hbW2⟩
          case measure => simp [intOf]; omega
      | false =>
        have HR := Lib.hid (show rdE s.data.toList (plc L) = 44 by rw [HRD2.out, ← HTK.out, if_pos HA.out])
        go_wp2
        go_ret2
        exact ⟨_, by rw [HR.out]; rfl, hbW2⟩
    · obtain rfl : j = n := by omega
      have HR := Lib.hid (show rdE s.data.toList (plc L) = 0 by
        rw [HRD.out, List.drop_of_length_le (by simp [plc]; exact Nat.le_of_eq HN.out.symm)]
        cases t.data.toList <;> rfl)
      go_wp2
      go_ret2
      exact ⟨_, by rw [HR.out]; rfl, hb⟩
end Go.Proofs.Ytidnoeahmnfodaa
