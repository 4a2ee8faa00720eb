/- The walk of what Rename does. -/
import Derived.Test.YtgkphogefpmeaaaDkB
namespace Go.Proofs.Ytgkphogefpmeaaa
open Go.RowKit Go.Maps DkM
theorem seq_yes (m : ByteArray) : (m.toList == m.toList) = true := by simp
theorem seq_no {m n : ByteArray} (h : m ≠ n) : (m.toList == n.toList) = false := by
  rw [ByteArray.toList_eq, ByteArray.toList_eq]; exact eqN_no.2 h
theorem seq_eq (m n : ByteArray) : (m.toList == n.toList) = eqN m n := by
  rw [ByteArray.toList_eq, ByteArray.toList_eq]; rfl
theorem cell_set {w : World} {a : Addr} {x : Nat} {v u : Value} (h : w.cell? ⟨x, 0, none⟩ = some v) (hne : x ≠ a.block) : (w.setCell a u).cell? ⟨x, 0, none⟩ = some v := by
  rw [World.cell?_setCell_other _ _ _ _ (by rintro rfl; exact hne rfl)]; exact h
section
variable {w : World} {p b x y z : Nat} {S : Dk}

set_option maxRecDepth 100000 in
set_option maxHeartbeats 1000000 in
theorem rename1_same (h : DiskAt w p b S) {m : ByteArray} (hx : w.cell? ⟨x, 0, none⟩ = some (.string m)) (hy : w.cell? ⟨y, 0, none⟩ = some (.string m)) :
    Calls Try.prog 53 #[ptr x, ptr y, ptr z] w fun e w' => e = .returned (.tuple #[]) ∧ DiskAt w' p b S ∧ Kp p b w w' := by
  have H := Lib.hid h
  have hq := seq_yes m
  clear h
  go_enter Try.func53, Try.ntmps53
  go_wp2
  refine bodyPost_ret (results_none rfl _ _ _) rfl ?_
  exact ⟨rfl, H.out, Kp.refl _ _ _⟩

set_option maxRecDepth 100000 in
set_option maxHeartbeats 1000000 in
theorem rename1_any (h : DiskAt w p b S) (hl : S.L.length < maxLen) {m n : ByteArray} (hm : m.size ≤ maxLen) (hn : n.size ≤ maxLen) (hne : m ≠ n) {f : Fl} (hf : lkF S.L m = some f)
    (hx : w.cell? ⟨x, 0, none⟩ = some (.string m)) (hy : w.cell? ⟨y, 0, none⟩ = some (.string n)) (hz : w.cell? ⟨z, 0, none⟩ = some (ptr p))
    (hu0 : (flB (lkF S.L n)).size ≤ S.used) (hu1 : S.used ≤ 9223372036854775807) :
    Calls Try.prog 53 #[ptr x, ptr y, ptr z] w fun e w' => e = .returned (.tuple #[]) ∧ DiskAt w' p b { S with L := wo (putF S.L ⟨n, f.s, f.l⟩) m, used := S.used - (flB (lkF S.L n)).size } ∧ Kp p b w w' := by
  have hc := h.cells
  obtain ⟨lt, c0, c1, c2, c3, c4, c5, c6⟩ := hc
  have hlk := run_look h.drew.own hn
  have hlkm : ∀ W : World, Own W b S.L → (Instr.lookup 69 (.map (some b)) (.string m) false).run Try.prog W = .ok (.agg #[.string (f.s ++ f.l), .int .i64 (f.s.size : Nat)]) W := fun W hW => by
    have := run_look hW hm
    rw [hf] at this
    exact this
  have HX := Lib.hid (cell_ne hx h.own)
  have HY := Lib.hid (cell_ne hy h.own)
  have HZ := Lib.hid (cell_ne hz h.own)
  have f3 := h.blk.frozen 3
  have hxp : x ≠ p := by
    rintro rfl
    rw [c0] at hx; cases hx
  have hyp : y ≠ p := by
    rintro rfl
    rw [c0] at hy; cases hy
  have hzp : z ≠ p := by
    rintro rfl
    rw [c0] at hz; cases hz
  have hq := seq_no hne
  unfold orV at hlk
  have hfl := run_field0
  generalize (flB (lkF S.L n)) = B at *
  have H := Lib.hid h
  replace hxp := Lib.hid hxp
  replace hyp := Lib.hid hyp
  replace hzp := Lib.hid hzp
  replace hlkm := Lib.hid hlkm
  clear h c1 c2 c4 c5 c6 hne
  go_enter Try.func53, Try.ntmps53
  go_wp2
  go_still_tail 15, (by kernel_rfl)
  go_wp2
  obtain ⟨W, hW⟩ : ∃ W, W = (w.setCell ⟨p, 3, none⟩ (.int .i64 (S.used - B.size))).drew := ⟨_, rfl⟩
  have D0 : DiskAt W p b { S with used := S.used - B.size } := by rw [hW]; exact (H.out.set3 _).drew
  have X0 : W.cell? ⟨x, 0, none⟩ = some (.string m) := by rw [hW]; exact cell_set hx hxp.out
  have Y0 : W.cell? ⟨y, 0, none⟩ = some (.string n) := by rw [hW]; exact cell_set hy hyp.out
  have Z0 : W.cell? ⟨z, 0, none⟩ = some (ptr p) := by rw [hW]; exact cell_set hz hzp.out
  have K0 : Kp p b w W := by rw [hW]; exact (Kp.setP _ _ _).trans (Kp.drew _)
  obtain ⟨lt0, d0, -⟩ := D0.cells
  have hlk3 := hlkm.out _ D0.drew.own
  rw [← hW]
  have D1 := Lib.hid D0
  clear hW hx hy hz c0 c3 f3 lt D0 hlk
  go_still_tail 11, (by kernel_rfl)
  refine wpList_putF _ rfl _ _ _ rfl b S.L n ⟨n, f.s, f.l⟩ rfl D1.out.drew.own hl rfl file_ren rfl hn ?_
  intro w1 ho ht
  have D2 := D1.out.drew.turned ho ht
  have X1 : w1.cell? ⟨x, 0, none⟩ = some (.string m) := turned_cell ht X0 HX.out
  have Z1 : w1.cell? ⟨z, 0, none⟩ = some (ptr p) := turned_cell ht Z0 HZ.out
  have K1 : Kp p b w w1 := K0.trans ((Kp.drew _).trans (Kp.turned ht))
  obtain ⟨lt1, d0, -⟩ := D2.cells
  have D3 := Lib.hid D2
  clear ho ht D2 X0 Y0 Z0 K0 lt0 hlk3
  go_wp2
  go_still_tail 5, (by kernel_rfl)
  refine wpList_drop _ rfl _ _ rfl b (putF S.L ⟨n, f.s, f.l⟩) m rfl D3.out.drew.own rfl hm ?_
  intro w2 ho ht
  go_wp2
  go_end0
  exact ⟨rfl, D3.out.drew.turned ho ht, K1.trans ((Kp.drew _).trans (Kp.turned ht))⟩
end
end Go.Proofs.Ytgkphogefpmeaaa
