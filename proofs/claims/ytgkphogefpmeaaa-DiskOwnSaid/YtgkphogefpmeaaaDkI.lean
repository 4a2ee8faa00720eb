/- The walks of Files and Copy: the library's Sorted, Keys, Clone by the shelf's contracts. -/
import Derived.Test.YtgkphogefpmeaaaIter
import Derived.Test.YtgkphogefpmeaaaDkC5
namespace Go.Proofs
open Go.RowKit Go.Maps Go.Sort Go.Shelf
theorem Try.sortsKeys (m : Nat) : AnyZ.SortsIn Try.prog Try.sorted46_ren Fence.wide m :=
  ⟨fun blk off cap ss W hH hblk hsz => callsIn_wide.2 (AnyM.slices_Sort_string Try.sort58 blk off cap ss W hH hblk hsz),
   fun p cap W => callsIn_wide.2 (AnyM.slices_Sort_string_none Try.sort58 p cap W)⟩
theorem Try.mapsKeys (mb : Option Nat) (W : World) : CallsIn Fence.wide 5 Try.prog 47 #[.map mb] W fun e w' => e = .returned (.func (.func 59) #[] #[.pointer (some ⟨W.heap.size, 0, none⟩)]) ∧ w' = W.alloc (.cells #[.map mb] 69) :=
  AnyZ.keys_in Try.keys47 Fence.wide 5 trivial rfl mb W
set_option maxHeartbeats 1000000 in
theorem Try.sortedKeys {H : Type} (b nn : Nat) (D0 : DataW H) (R : Value → Option (DataW H × List MemPlace)) (w : World) (hown : w.ownsMap Try.prog 9 R b nn D0) (hmax : Maps.size D0 ≤ maxLen) (hbytes : Maps.size D0 * 16 ≤ 140737488355328) :
    CallsIn Fence.wide 5 Try.prog 46 #[.func (.func 59) #[] #[.pointer (some ⟨w.heap.size, 0, none⟩)]] (w.alloc (.cells #[.map (some b)] 69)) fun e w' => ∃ (v : Value) (ss : List (List UInt8)), e = .returned v ∧ ss.Perm (strKeys D0) ∧
      w'.ownsRow (w.alloc (.cells #[.map (some b)] 69)).heap.size 9 1 v ss.length ((ss.mergeSort (fun x y => decide (x ≤ y))).map encStr) ∧ (v = .slice none 0 0 ↔ ss = []) ∧ Below (w.alloc (.cells #[.map (some b)] 69)).heap.size (w.alloc (.cells #[.map (some b)] 69)) w' := by
  have hbl := hown.lt
  have hseq : SeqGives Fence.wide 2 Try.prog 59 #[.pointer (some ⟨w.heap.size, 0, none⟩)] encStr (fun ss => ss.Perm (strKeys D0)) (Maps.size D0) (w.alloc (.cells #[.map (some b)] 69)) :=
    AnyZ.keys_gives (ρ := Try.keys47_ren) { Try.keys47 with } Fence.wide _ trivial rfl (by omega) w.heap.size b nn D0 _ (by simp) (by simp) (by
      obtain ⟨es, clock, hb, Ft, hs, hD⟩ := hown
      exact ⟨es, clock, (Below.heap_alloc _ _ b hbl).trans hb, Ft, hs, hD⟩)
  exact AnyZ.sorted_in Try.sorted46 Fence.wide 5 trivial trivial trivial trivial rfl (by omega) (Try.sortsKeys _) (enters_of Try.func58 (by kernel_rfl) rfl) 59 #[.pointer (some ⟨w.heap.size, 0, none⟩)] trivial (enters_of Try.func59 (by kernel_rfl) rfl) _ _ hmax hbytes _ hseq
end Go.Proofs
namespace Go.Proofs.Ytgkphogefpmeaaa
open Go.RowKit Go.Maps DkM

/-- The names of a row of files, in a slice from block 'base' on. -/
def NamesAt (w : World) (base : Nat) (v : Value) (L : List Fl) : Prop :=
  ∃ A cap, v = .slice A L.length cap ∧ (0 < L.length → ∃ g, A = some ⟨g, 0, none⟩ ∧ base ≤ g ∧ g < w.heap.size ∧ ∀ k (h : k < L.length), w.cell? ⟨g, k, none⟩ = some (.string L[k].n))
def FilesPost (L : List Fl) (w : World) (e : Ending) (w' : World) : Prop := ∃ v, e = .returned v ∧ NamesAt w' w.heap.size v L ∧ Below w.heap.size w w'
section
variable {w : World} {p b : Nat} {S : Dk}
theorem names_of {w w' : World} {base : Nat} {v : Value} {L : List Fl} {ss : List (List UInt8)} (hr : Rise L) (hp : ss.Perm (strKeys (toD L))) (ho : w'.ownsRow base 9 1 v ss.length ((ss.mergeSort (fun x y => decide (x ≤ y))).map encStr)) (hb : w.heap.size ≤ base) : NamesAt w' w.heap.size v L := by
  rw [keys_toD] at hp
  have hs := sorted_keys hr hp
  have hlen : ss.length = L.length := by simpa using hp.length_eq
  unfold leB at hs
  rw [hs, List.map_map, hlen] at ho
  have ho' := ho
  rcases ho.2 with ⟨rfl, h0⟩ | ⟨g, cap, cur, rfl, hg, hh, h1, h2, h3, h4⟩
  · refine ⟨none, 0, ?_, fun h => ?_⟩
    · rw [h0]
    · omega
  · refine ⟨_, _, rfl, fun h => ⟨g, rfl, by omega, ?_, fun k hk => ?_⟩⟩
    · exact (Array.getElem?_eq_some_iff.1 hh).1
    · have := ho'.cells (g := g) rfl k (.string L[k].n) (by simp [hk])
      have e : (⟨g, 0, none⟩ : Addr).add k = ⟨g, k, none⟩ := by
        unfold Addr.add
        split
        · simp_all
        · simp
      rw [e] at this
      exact this

set_option maxRecDepth 100000 in
set_option maxHeartbeats 1000000 in
theorem files_any (h : DiskAt w p b S) (B : Bd S) : Calls Try.prog 30 #[ptr p] w (FilesPost S.L w) := by
  obtain ⟨lt, c0, c1, c2, c3, c4, c5, c6⟩ := h.cells
  have hlen := B.len
  have HK := fun W => callsIn_wide.1 (Try.mapsKeys (some b) W)
  have HS := callsIn_wide.1 (Try.sortedKeys b _ (toD S.L) holdV w h.own (by rw [size_toD]; unfold maxLen; omega) (by rw [size_toD]; omega))
  have HR := Lib.hid B.rise
  replace HK := Lib.hid HK
  replace HS := Lib.hid HS
  clear h B c1 c2 c3 c4 c5 c6 hlen
  go_enter Try.func30, Try.ntmps30
  go_wp2_with (first | (go_at_call 47; refine (HK.out _).mono ?_; rintro e w1 ⟨rfl, rfl⟩) | (go_at_call 46; refine HS.out.mono ?_; rintro e w1 ⟨v, ss, rfl, hp, ho, hv, hb⟩))
  go_ret
  exact ⟨v, rfl, names_of HR.out hp ho (by simp), ((Below.refl _ _).alloc (Nat.le_refl _) _).trans (hb.mono (by simp))⟩

def CopyPost (p b : Nat) (S : Dk) (w : World) (e : Ending) (w' : World) : Prop :=
  e = .returned (ptr w.heap.size) ∧ DiskAt w' w.heap.size (w.heap.size + 1) S ∧ DiskAt w' p b S ∧ Below w.heap.size w w'
set_option maxRecDepth 100000 in
set_option maxHeartbeats 1000000 in
theorem copy_any (h : DiskAt w p b S) : Calls Try.prog 37 #[ptr p] w (CopyPost p b S w) := by
  obtain ⟨lt, c0, c1, c2, c3, c4, c5, c6⟩ := h.cells
  have hown : Own (w.alloc (.cells (dkC b S) 71)) b S.L := h.own.alloc _
  have HC : Calls Try.prog 50 #[.map (some b)] (w.alloc (.cells (dkC b S) 71)) _ := AnyW.maps_Clone_owns Try.clone50 9 holdV b S.L.length (toD S.L) _ hown
  have H := Lib.hid h
  replace HC := Lib.hid HC
  clear h hown
  unfold dkC at HC
  go_enter Try.func37, Try.ntmps37
  go_wp2_with fail
  refine HC.out.mono ?_
  rintro e w1 ⟨rfl, ho1, ho2, hb⟩
  have hsz : (w.alloc (.cells (dkC b S) 71)).heap.size = w.heap.size + 1 := by simp
  have BN : Blk w1 w.heap.size 71 (dkC b S) := (hb.block w.heap.size (by simp)).trans (Blk.new w _ _)
  have BP : Blk w1 p 71 (dkC b S) := (hb.block p (by simp; omega)).trans (H.out.alloc _).blk
  have n0 := BN.cell 0
  have fz := BN.frozen 0
  have hbl := H.out.own.lt
  have hB : Below w.heap.size w w1 := ((Below.refl _ _).alloc (Nat.le_refl _) _).trans (hb.mono (by simp))
  have O1 : Own w1 (w.heap.size + 1) S.L := by
    have := ho1
    unfold dkC at hsz
    rw [hsz] at this
    exact this
  have O2 : Own w1 b S.L := ho2
  have hlt : w.heap.size < w1.heap.size := BN.lt
  have HN := Lib.hid BN
  have HP := Lib.hid BP
  have HO1 := Lib.hid O1
  have HO2 := Lib.hid O2
  have HB := Lib.hid hB
  have hsz2 := Lib.hid hsz
  clear hb ho1 ho2 BN BP O1 O2 hB hsz HC c0 c1 c2 c3 c4 c5 c6
  go_wp2_with fail
  go_ret
  refine ⟨rfl, ⟨?_, ?_⟩, ⟨?_, ?_⟩, ?_⟩
  · exact HN.out.set_ 0 _
  · exact HO1.out.far (by simp) _
  · exact HP.out.far (by simp; omega) _
  · exact HO2.out.far (by simp; omega) _
  · exact HB.out.setCell (by simp) _
end
end Go.Proofs.Ytgkphogefpmeaaa
