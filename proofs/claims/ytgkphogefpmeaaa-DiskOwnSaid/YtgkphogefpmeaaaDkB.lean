/- The walks of what the disk's ops do. -/
import Derived.Test.YtgkphogefpmeaaaDkA
import Derived.Deep.RegionHeld3
namespace Go.Proofs.Ytgkphogefpmeaaa
open Go.RowKit Go.Maps DkM

abbrev ptr (x : Nat) : Value := .pointer (some ⟨x, 0, none⟩)
def nul : ByteArray := ⟨#[]⟩
theorem app_nul (a : ByteArray) : a ++ nul = a := ba_ext (by rw [app_list]; simp [nul])
theorem nul_app (a : ByteArray) : nul ++ a = a := ba_ext (by rw [app_list]; simp [nul])
theorem file_new (n : ByteArray) : (Value.agg #[.string ⟨#[]⟩, .int .i64 0]) = fileV ⟨n, nul, nul⟩ := by
  unfold fileV
  simp only [app_nul]
  rfl
theorem cell_lt {w : World} {a : Addr} {v : Value} (h : w.cell? a = some v) : a.block < w.heap.size := by
  rcases Nat.lt_or_ge a.block w.heap.size with h' | h'
  · exact h'
  · simp [World.cell?, Array.getElem?_eq_none h'] at h
theorem cell_alloc {w : World} {a : Addr} {v : Value} (h : w.cell? a = some v) (o : Obj) : (w.drew.alloc o).cell? a = some v :=
  (World.cell?_alloc_lt w.drew o a (cell_lt h)).trans h
theorem run_field0 (B : ByteArray) (m : Int) (w : World) : (Instr.field 76 (.agg #[.string B, .int .i64 m]) 0).run Try.prog w = .ok (.string B) w := by kernel_rfl
section
variable {w : World} {p b x y z : Nat} {S : Dk}

set_option maxRecDepth 100000 in
set_option maxHeartbeats 400000 in
theorem create1_any (h : DiskAt w p b S) (hl : S.L.length < maxLen) {n : ByteArray} (hn : n.size ≤ maxLen) (hx : w.cell? ⟨x, 0, none⟩ = some (ptr p)) (hy : w.cell? ⟨y, 0, none⟩ = some (.string n)) :
    Calls Try.prog 49 #[ptr x, ptr y] w fun e w' => e = .returned (.tuple #[]) ∧ DiskAt w' p b { S with L := putF S.L ⟨n, nul, nul⟩ } ∧ Kp p b w w' := by
  obtain ⟨lt, c0, c1, c2, c3, c4, c5, c6⟩ := h.cells
  have H := Lib.hid h
  clear h c1 c2 c3 c4 c5 c6
  go_enter Try.func49, Try.ntmps49
  go_wp2
  go_still_tail 6, (by kernel_rfl)
  refine wpList_putF _ rfl _ _ _ rfl b S.L n ⟨n, nul, nul⟩ rfl H.out.drew.own hl rfl (file_new n) rfl hn ?_
  intro w1 ho ht
  go_wp2
  go_end0
  exact ⟨rfl, H.out.drew.turned ho ht, (Kp.drew w).trans (Kp.turned ht)⟩

theorem cell_ne {L : List Fl} {v : Value} {i : Nat} (h : w.cell? ⟨x, i, none⟩ = some v) (ho : Own w b L) : x ≠ b := by
  rintro rfl
  obtain ⟨es, clock, hb, _⟩ := ho
  simp [World.cell?, hb] at h
theorem turned_cell {w' : World} {v : Value} {i : Nat} (ht : w.mapTurned w' b) (h : w.cell? ⟨x, i, none⟩ = some v) (hne : x ≠ b) : w'.cell? ⟨x, i, none⟩ = some v :=
  ((Kp.turned (p := b) ht).cell (cell_lt h) hne hne).trans h
theorem file_app {f : Fl} {n t : ByteArray} : (Value.agg #[.string (f.s ++ f.l ++ t), .int .i64 (f.s.size : Nat)]) = fileV ⟨n, f.s, f.l ++ t⟩ := by
  unfold fileV; rw [ByteArray.append_assoc]

set_option maxRecDepth 100000 in
set_option maxHeartbeats 1000000 in
theorem append1_any (h : DiskAt w p b S) (hl : S.L.length < maxLen) {n t : ByteArray} (hn : n.size ≤ maxLen) {f : Fl} (hf : lkF S.L n = some f) (hx : w.cell? ⟨x, 0, none⟩ = some (ptr p)) (hy : w.cell? ⟨y, 0, none⟩ = some (.string n)) (hz : w.cell? ⟨z, 0, none⟩ = some (.string t))
    (hu0 : 0 ≤ S.used) (hu1 : S.used + t.size ≤ 9223372036854775807) (hcat : (f.s ++ f.l).size + t.size ≤ 9223372036854775807) :
    Calls Try.prog 51 #[ptr x, ptr y, ptr z] w fun e w' => e = .returned (.tuple #[]) ∧ DiskAt w' p b { S with L := putF S.L ⟨n, f.s, f.l ++ t⟩, used := S.used + t.size } ∧ Kp p b w w' := by
  have hc := h.cells
  obtain ⟨lt, c0, c1, c2, c3, c4, c5, c6⟩ := hc
  have hlk := run_look h.drew.own hn
  have hlk2 := fun o => run_look (h.drew.own.alloc o) hn
  rw [hf] at hlk hlk2
  unfold orV flB flN at hlk hlk2
  have HX := Lib.hid (cell_ne hx h.own)
  have HY := Lib.hid (cell_ne hy h.own)
  have HZ := Lib.hid (cell_ne hz h.own)
  have lx := cell_lt hx
  have ly := cell_lt hy
  have lz := cell_lt hz
  simp only at lx ly lz
  have H := Lib.hid h
  clear h c1 c2 c4 c5 c6
  go_enter Try.func51, Try.ntmps51
  go_wp2
  go_region_held3 (fun w' => w'.cell? ⟨x, 0, none⟩ = some (ptr p) ∧ w'.cell? ⟨y, 0, none⟩ = some (.string n) ∧ w'.cell? ⟨p, 0, none⟩ = some (.map (some b)) ∧ (Instr.lookup 69 (.map (some b)) (.string n) false).run Try.prog w' = .ok (.agg #[.string (f.s ++ f.l), .int .i64 (f.s.size : Nat)]) w')
    (first | exact ⟨hx, hy, c0, hlk⟩ | exact ⟨(cell_alloc hx _), (cell_alloc hy _), (cell_alloc c0 _), hlk2 _⟩) (fail)
  all_goals
    clear hlk hlk2
    go_wp2
    obtain ⟨W, hW⟩ : ∃ W, W = (w.alloc (.cells #[.string (f.s ++ f.l ++ t), .int .i64 (f.s.size : Nat)] 76)).drew := ⟨_, rfl⟩
    have D0 : DiskAt W p b S := by rw [hW]; exact (H.out.alloc _).drew
    have X0 : W.cell? ⟨x, 0, none⟩ = some (ptr p) := by rw [hW]; exact cell_alloc hx _
    have Y0 : W.cell? ⟨y, 0, none⟩ = some (.string n) := by rw [hW]; exact cell_alloc hy _
    have Z0 : W.cell? ⟨z, 0, none⟩ = some (.string t) := by rw [hW]; exact cell_alloc hz _
    have K0 : Kp p b w W := by rw [hW]; exact (Kp.alloc _ _).trans (Kp.drew _)
    have N0 : W.cell? ⟨w.heap.size, 0, none⟩ = some (.string (f.s ++ f.l ++ t)) := by rw [hW]; simp
    have N1 : W.cell? ⟨w.heap.size, 1, none⟩ = some (.int .i64 (f.s.size : Nat)) := by rw [hW]; simp
    obtain ⟨lt0, d0, -⟩ := D0.cells
    rw [← hW]
    have D1 := Lib.hid D0
    clear hW hx hy hz c0 c3 lx ly lz lt D0
    go_still_tail 6, (by kernel_rfl)
    refine wpList_putF _ rfl _ _ _ rfl b S.L n ⟨n, f.s, f.l ++ t⟩ rfl D1.out.drew.own hl rfl file_app rfl hn ?_
    intro w1 ho ht
    have D2 := D1.out.drew.turned ho ht
    have X1 : w1.cell? ⟨x, 0, none⟩ = some (ptr p) := turned_cell ht X0 HX.out
    have Z1 : w1.cell? ⟨z, 0, none⟩ = some (.string t) := turned_cell ht Z0 HZ.out
    have K1 : Kp p b w w1 := K0.trans ((Kp.drew _).trans (Kp.turned ht))
    obtain ⟨lt1, -, -, -, d3, -⟩ := D2.cells
    have f3 := D2.blk.frozen 3
    have D3 := Lib.hid D2
    clear ho ht D2 X0 Y0 Z0 K0 N0 N1 lt0 d0
    simp only at d3
    go_wp2
    go_still_tail 9, (by kernel_rfl)
    go_wp2
    go_end0
    exact ⟨rfl, D3.out.drew.set3 _, K1.trans ((Kp.drew _).trans (Kp.setP _ _ _))⟩

theorem file_syn {f : Fl} {n : ByteArray} : (Value.agg #[.string (f.s ++ f.l), .int .i64 ((f.s.size : Nat) + (f.l.size : Nat))]) = fileV ⟨n, f.s ++ f.l, nul⟩ := by
  unfold fileV; simp only [app_nul, app_size]; rfl
theorem file_ren {f : Fl} {n : ByteArray} : (Value.agg #[.string (f.s ++ f.l), .int .i64 (f.s.size : Nat)]) = fileV ⟨n, f.s, f.l⟩ := rfl

set_option maxRecDepth 100000 in
set_option maxHeartbeats 1000000 in
theorem sync1_any (h : DiskAt w p b S) (hl : S.L.length < maxLen) {n : ByteArray} (hn : n.size ≤ maxLen) {f : Fl} (hf : lkF S.L n = some f) (hx : w.cell? ⟨x, 0, none⟩ = some (ptr p)) (hy : w.cell? ⟨y, 0, none⟩ = some (.string n)) :
    Calls Try.prog 52 #[ptr x, ptr y] w fun e w' => e = .returned (.tuple #[]) ∧ DiskAt w' p b { S with L := putF S.L ⟨n, f.s ++ f.l, nul⟩ } ∧ Kp p b w w' := by
  have hc := h.cells
  obtain ⟨lt, c0, c1, c2, c3, c4, c5, c6⟩ := hc
  have hlk := run_look h.drew.own hn
  have hlk2 := fun o => run_look (h.drew.own.alloc o) hn
  rw [hf] at hlk hlk2
  unfold orV flB flN at hlk hlk2
  have H := Lib.hid h
  clear h c1 c2 c3 c4 c5 c6
  go_enter Try.func52, Try.ntmps52
  go_wp2
  go_region_held3 (fun w' => w'.cell? ⟨x, 0, none⟩ = some (ptr p) ∧ w'.cell? ⟨y, 0, none⟩ = some (.string n) ∧ w'.cell? ⟨p, 0, none⟩ = some (.map (some b)) ∧ (Instr.lookup 69 (.map (some b)) (.string n) false).run Try.prog w' = .ok (.agg #[.string (f.s ++ f.l), .int .i64 (f.s.size : Nat)]) w')
    (first | exact ⟨hx, hy, c0, hlk⟩ | exact ⟨(cell_alloc hx _), (cell_alloc hy _), (cell_alloc c0 _), hlk2 _⟩) (fail)
  all_goals
    clear hlk hlk2
    go_wp2
    obtain ⟨W, hW⟩ : ∃ W, W = (w.alloc (.cells #[.string (f.s ++ f.l), .int .i64 ((f.s.size : Nat) + (f.l.size : Nat))] 76)).drew := ⟨_, rfl⟩
    have D0 : DiskAt W p b S := by rw [hW]; exact (H.out.alloc _).drew
    have X0 : W.cell? ⟨x, 0, none⟩ = some (ptr p) := by rw [hW]; exact cell_alloc hx _
    have Y0 : W.cell? ⟨y, 0, none⟩ = some (.string n) := by rw [hW]; exact cell_alloc hy _
    have K0 : Kp p b w W := by rw [hW]; exact (Kp.alloc _ _).trans (Kp.drew _)
    have N0 : W.cell? ⟨w.heap.size, 0, none⟩ = some (.string (f.s ++ f.l)) := by rw [hW]; simp
    have N1 : W.cell? ⟨w.heap.size, 1, none⟩ = some (.int .i64 ((f.s.size : Nat) + (f.l.size : Nat))) := by rw [hW]; simp
    obtain ⟨lt0, d0, -⟩ := D0.cells
    rw [← hW]
    have D1 := Lib.hid D0
    clear hW hx hy c0 lt D0
    go_still_tail 6, (by kernel_rfl)
    refine wpList_putF _ rfl _ _ _ rfl b S.L n ⟨n, f.s ++ f.l, nul⟩ rfl D1.out.drew.own hl rfl file_syn rfl hn ?_
    intro w1 ho ht
    go_wp2
    go_end0
    exact ⟨rfl, D1.out.drew.turned ho ht, K0.trans ((Kp.drew _).trans (Kp.turned ht))⟩

set_option maxRecDepth 100000 in
set_option maxHeartbeats 1000000 in
theorem delete1_any (h : DiskAt w p b S) {n : ByteArray} (hn : n.size ≤ maxLen) (hx : w.cell? ⟨x, 0, none⟩ = some (ptr p)) (hy : w.cell? ⟨y, 0, none⟩ = some (.string n))
    (hu0 : (flB (lkF S.L n)).size ≤ S.used) (hu1 : S.used ≤ 9223372036854775807) :
    Calls Try.prog 54 #[ptr x, ptr y] w fun e w' => e = .returned (.tuple #[]) ∧ DiskAt w' p b { S with L := wo S.L n, used := S.used - (flB (lkF S.L n)).size } ∧ Kp p b w w' := by
  have hc := h.cells
  obtain ⟨lt, c0, c1, c2, c3, c4, c5, c6⟩ := hc
  have hlk := run_look h.drew.own hn
  have HX := Lib.hid (cell_ne hx h.own)
  have HY := Lib.hid (cell_ne hy h.own)
  have f3 := h.blk.frozen 3
  have hxp : x ≠ p := by
    rintro rfl
    rw [c0] at hx; cases hx
  have hyp : y ≠ p := by
    rintro rfl
    rw [c0] at hy; cases hy
  have hx2 : ∀ v, (w.setCell ⟨p, 3, none⟩ v).cell? ⟨x, 0, none⟩ = some (ptr p) := fun v => by rw [World.cell?_setCell_other _ _ _ _ (by intro e; injection e with e; exact hxp e.symm)]; exact hx
  have hy2 : ∀ v, (w.setCell ⟨p, 3, none⟩ v).cell? ⟨y, 0, none⟩ = some (.string n) := fun v => by rw [World.cell?_setCell_other _ _ _ _ (by intro e; injection e with e; exact hyp e.symm)]; exact hy
  unfold orV at hlk
  have hfl := run_field0
  generalize (flB (lkF S.L n)) = B at *
  have H := Lib.hid h
  replace hxp := Lib.hid hxp
  replace hyp := Lib.hid hyp
  replace hx2 := Lib.hid hx2
  replace hy2 := Lib.hid hy2
  clear h c1 c2 c4 c5 c6
  go_enter Try.func54, Try.ntmps54
  go_wp2
  go_still_tail 15, (by kernel_rfl)
  go_wp2
  obtain ⟨W, hW⟩ : ∃ W, W = (w.setCell ⟨p, 3, none⟩ (.int .i64 (S.used - B.size))).drew := ⟨_, rfl⟩
  have D0 : DiskAt W p b { S with used := S.used - B.size } := by rw [hW]; exact (H.out.set3 _).drew
  have X0 : W.cell? ⟨x, 0, none⟩ = some (ptr p) := by rw [hW]; exact hx2.out _
  have Y0 : W.cell? ⟨y, 0, none⟩ = some (.string n) := by rw [hW]; exact hy2.out _
  have K0 : Kp p b w W := by rw [hW]; exact (Kp.setP _ _ _).trans (Kp.drew _)
  obtain ⟨lt0, d0, -⟩ := D0.cells
  rw [← hW]
  have D1 := Lib.hid D0
  clear hW hx hy hx2 hy2 c0 c3 f3 lt D0 hlk
  go_still_tail 5, (by kernel_rfl)
  refine wpList_drop _ rfl _ _ rfl b S.L n rfl D1.out.drew.own rfl hn ?_
  intro w1 ho ht
  go_wp2
  go_end0
  exact ⟨rfl, D1.out.drew.turned ho ht, K0.trans ((Kp.drew _).trans (Kp.turned ht))⟩
end
end Go.Proofs.Ytgkphogefpmeaaa
