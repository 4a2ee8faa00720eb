/- The law of names: the walk. -/
import Derived.Test.YtefknfbmphdafaaSgS
import Derived.Test.YtefknfbmphdafaaSgQ
import Derived.Test.YtefknfbmphdafaaSgAl
import Derived.Deep.Cut
namespace Go.Proofs.Ytefknfbmphdafaa
namespace SgM
open Go Go.RowKit CrcM FrM
open Ds (Blk)

theorem cmp_below (a b : Sg) (w : World) : Calls Try.prog 10 #[sgV a, sgV b] w fun e w' => e = .returned (.int .i64 (cmpS a b)) ∧ Below w.heap.size w w' := by
  refine (cmp_any a b w).mono ?_
  rintro e w' ⟨rfl, q, os, rfl⟩
  exact ⟨rfl, ⟨rfl, rfl, rfl, by simp [Go.Sort.grow], fun k hk => by unfold Go.Sort.grow; simp only []; rw [Array.getElem?_append_left (by simpa using hk)]; rfl⟩⟩
theorem ok64 {s : Sg} (h : okS s = true) : In64 s.n := by have := (okS_iff.1 h).2; unfold In64; omega
theorem str_facts {s : ByteArray} (h : s.size ≠ 0) : s.toList ≠ [] ∧ (s.toList == []) = false ∧ decide (s.toList = []) = false ∧ s.toList.isEmpty = false := by
  have hne : s.toList ≠ [] := by
    rw [ByteArray.toList_eq]
    intro e
    have := size_list s
    rw [e] at this
    exact h this
  exact ⟨hne, by rw [beq_eq_false_iff_ne]; exact hne, decide_eq_false hne, by cases h : s.toList with | nil => exact absurd h hne | cons => rfl⟩
theorem less_before : ∀ x y : List UInt8, Op.bytesLess x y = bytesBefore x y
  | [], [] => rfl
  | [], _ :: _ => rfl
  | _ :: _, [] => rfl
  | c :: x, d :: y => by
    have ih := less_before x y
    unfold Op.bytesLess bytesBefore
    rw [ih]
theorem nmB_no {s : Sg} (h : okS s = false) : nmB s = ⟨#[]⟩ := by unfold nmB; rw [nm_no h]; rfl

set_option maxRecDepth 100000 in
set_option maxHeartbeats 4000000 in
theorem walk_SegNames (w : World) (v : Value) (hv : ReadSeg v) (u : Value) (hu : ReadSeg u) (f : ByteArray) (_hf : f.size ≤ maxLen) :
    Calls Try.prog 3 #[v, u, .string f] w fun e w' => e = .returned (.bool true) ∧ Below w.heap.size w w' := by
  obtain ⟨s, rfl, hs⟩ := hv
  obtain ⟨o, rfl, ho⟩ := hu
  have AL := Lib.hid alive_any
  have NS := fun w => name_any s w hs
  have NO := fun w => name_any o w ho
  have RS := fun w => rname_any s w hs
  have A1 := fun w => ahead_any s o w
  have A2 := fun w => ahead_any o s w
  have CM := fun w => cmp_below s o w
  have OF := fun w => of_any f w
  have RF := fun w => rof_any f w
  have OB := fun w => of_any (nmB s) w
  have NX := fun (h : ofB f.data.toList = true) w => name_any (ofS f.data.toList) w (ok64 (nm_of h).1)
  have HNX := Lib.hid (@nm_name f)
  have HCC := Lib.hid (show (if lt o s = true then 1 else if lt s o = true then -1 else 0 : Int) = cmpS s o from nmC_eq s o)
  have HOK := Lib.hid (show okS s = false → nmB s = ⟨#[]⟩ from nmB_no)
  have HOK2 := Lib.hid (show okS o = false → nmB o = ⟨#[]⟩ from nmB_no)
  have HSZ := Lib.hid (show okS s = true → (nmB s).size ≠ 0 from fun h => by rw [nm_size, if_pos h]; decide)
  have HSZ2 := Lib.hid (show okS o = true → (nmB o).size ≠ 0 from fun h => by rw [nm_size, if_pos h]; decide)
  have HBB := Lib.hid (show okS s = true → okS o = true → s.k = o.k → bytesBefore (nmB s).data.toList (nmB o).data.toList = decide (s.n < o.n) from fun h1 h2 h3 => by rw [nmB_list, nmB_list]; exact nm_before h1 h2 h3)
  have HYS := Lib.hid (show okS s = true → ofS (nmB s).data.toList = s from nm_back2)
  unfold ofP sgV at *
  rw [nm_back] at OB
  generalize cmpS s o = C at *
  generalize lt s o = p1 at *
  generalize lt o s = p2 at *
  generalize okS s = b1 at *
  generalize okS o = b2 at *
  generalize ofB f.data.toList = bf at *
  generalize nmB (ofS f.data.toList) = NF at *
  generalize nmB s = N at *
  generalize nmB o = M at *
  generalize ofS f.data.toList = X at *
  generalize ofS N.data.toList = Y at *
  obtain ⟨xk, hxk⟩ : ∃ x : Int, x = (X.k.toNat : Nat) := ⟨_, rfl⟩
  obtain ⟨xn, hxn⟩ : ∃ x : Int, x = X.n := ⟨_, rfl⟩
  obtain ⟨yk, hyk⟩ : ∃ x : Int, x = (Y.k.toNat : Nat) := ⟨_, rfl⟩
  obtain ⟨yn, hyn⟩ : ∃ x : Int, x = Y.n := ⟨_, rfl⟩
  have HKO := Lib.hid (show (s.k.toNat : Int) = (o.k.toNat : Nat) → s.k = o.k from fun h => UInt8.toNat_inj.1 (by omega))
  obtain ⟨sk, hsk⟩ : ∃ x : Int, x = (s.k.toNat : Nat) := ⟨_, rfl⟩
  obtain ⟨sn, hsn⟩ : ∃ x : Int, x = s.n := ⟨_, rfl⟩
  obtain ⟨ok, hok⟩ : ∃ x : Int, x = (o.k.toNat : Nat) := ⟨_, rfl⟩
  obtain ⟨on, hon⟩ : ∃ x : Int, x = o.n := ⟨_, rfl⟩
  have HYK := Lib.hid (show b1 = true → yk = sk ∧ yn = sn from fun h => by rw [hyk, hyn, HYS.out h, hsk, hsn]; exact ⟨rfl, rfl⟩)
  rw [← hsk, ← hsn] at NS RS A1 A2 CM ⊢
  rw [← hok, ← hon] at NO A1 A2 CM ⊢
  rw [← hxk, ← hxn] at OF RF NX
  rw [← hyk, ← hyn] at OB
  rw [← hsk, ← hok] at HKO
  rw [← hsn, ← hon] at HBB
  clear hsk hsn hok hon hxk hxn hyk hyn HYS hs ho
  replace NS := Lib.hid NS
  replace NO := Lib.hid NO
  replace RS := Lib.hid RS
  replace A1 := Lib.hid A1
  replace A2 := Lib.hid A2
  replace CM := Lib.hid CM
  replace OF := Lib.hid OF
  replace RF := Lib.hid RF
  replace OB := Lib.hid OB
  replace NX := Lib.hid NX
  obtain ⟨W, hW⟩ : ∃ W, W = (w.alloc (.cells #[.int .u8 sk, .int .i64 sn] 23)).alloc (.cells #[.int .u8 ok, .int .i64 on] 23) := ⟨_, rfl⟩
  have HW := Lib.hid hW
  have HBW := Lib.hid (show Below w.heap.size w W by rw [hW]; exact (below_box _ _).alloc (by simp) _)
  have BS : Blk W w.heap.size 23 #[.int .u8 sk, .int .i64 sn] := by rw [hW]; exact (Blk.new w _ _).alloc _
  have BO : Blk W (w.heap.size + 1) 23 #[.int .u8 ok, .int .i64 on] := by
    rw [hW]; have := Blk.new (w.alloc (.cells #[.int .u8 sk, .int .i64 sn] 23)) 23 #[.int .u8 ok, .int .i64 on]; simpa using this
  clear hW
  go_enter Try.func3, Try.ntmps3
  go_wp2_with fail
  rw [← HW.out]
  have HB := HBW.out
  refine (NS.out _).mono ?_
  rintro e w1 ⟨rfl, hb⟩
  replace BS : Blk w1 (w.heap.size) 23 #[.int .u8 sk, .int .i64 sn] := blk_step BS hb
  replace BO : Blk w1 (w.heap.size + 1) 23 #[.int .u8 ok, .int .i64 on] := blk_step BO hb
  replace HB : Below w.heap.size w w1 := keepW HB hb
  clear hb
  go_wp2_with fail
  refine (OF.out _).mono ?_
  rintro e w2 ⟨rfl, hb⟩
  obtain ⟨W2, hW2⟩ : ∃ W2, W2 = w2.alloc (.cells #[.int .u8 xk, .int .i64 xn] 25) := ⟨_, rfl⟩
  replace BS : Blk W2 (w.heap.size) 23 #[.int .u8 sk, .int .i64 sn] := by rw [hW2]; exact (blk_step BS hb).alloc _
  replace BO : Blk W2 (w.heap.size + 1) 23 #[.int .u8 ok, .int .i64 on] := by rw [hW2]; exact (blk_step BO hb).alloc _
  have BX : Blk W2 (w2.heap.size) 25 #[.int .u8 xk, .int .i64 xn] := by rw [hW2]; exact Blk.new _ _ _
  replace HB : Below w.heap.size w W2 := by rw [hW2]; exact (keepW HB hb).alloc (keepW HB hb).size _
  clear hb
  go_upto_region 3 with fail
  rw [← hW2]
  clear hW2
  go_wp2_with fail
  refine (RF.out _).mono ?_
  rintro e w3 ⟨rfl, hb⟩
  obtain ⟨W3, hW3⟩ : ∃ W3, W3 = w3.alloc (.cells #[.int .u8 xk, .int .i64 xn] 23) := ⟨_, rfl⟩
  replace BS : Blk W3 (w.heap.size) 23 #[.int .u8 sk, .int .i64 sn] := by rw [hW3]; exact (blk_step BS hb).alloc _
  replace BO : Blk W3 (w.heap.size + 1) 23 #[.int .u8 ok, .int .i64 on] := by rw [hW3]; exact (blk_step BO hb).alloc _
  replace BX : Blk W3 (w2.heap.size) 25 #[.int .u8 xk, .int .i64 xn] := by rw [hW3]; exact (blk_step BX hb).alloc _
  have BR : Blk W3 (w3.heap.size) 23 #[.int .u8 xk, .int .i64 xn] := by rw [hW3]; exact Blk.new _ _ _
  replace HB : Below w.heap.size w W3 := by rw [hW3]; exact (keepW HB hb).alloc (keepW HB hb).size _
  clear hb
  go_upto_region 4 with fail
  rw [← hW3]
  clear hW3
  have cS0 : W3.cell? ⟨w.heap.size, 0, none⟩ = some (.int .u8 sk) := BS.cell 0
  have cS1 : W3.cell? ⟨w.heap.size, 1, none⟩ = some (.int .i64 sn) := BS.cell 1
  have cO0 : W3.cell? ⟨w.heap.size + 1, 0, none⟩ = some (.int .u8 ok) := BO.cell 0
  have cO1 : W3.cell? ⟨w.heap.size + 1, 1, none⟩ = some (.int .i64 on) := BO.cell 1
  have cX0 : W3.cell? ⟨w2.heap.size, 0, none⟩ = some (.int .u8 xk) := BX.cell 0
  have cX1 : W3.cell? ⟨w2.heap.size, 1, none⟩ = some (.int .i64 xn) := BX.cell 1
  have cR0 : W3.cell? ⟨w3.heap.size, 0, none⟩ = some (.int .u8 xk) := BR.cell 0
  have cR1 : W3.cell? ⟨w3.heap.size, 1, none⟩ = some (.int .i64 xn) := BR.cell 1
  go_wp2_with fail
  clear cS0 cS1 cO0 cO1 cX0 cX1 cR0 cR1
  refine (A1.out _).mono ?_
  rintro e w4 ⟨rfl, hb⟩
  replace BS : Blk w4 (w.heap.size) 23 #[.int .u8 sk, .int .i64 sn] := blk_step BS hb
  replace BO : Blk w4 (w.heap.size + 1) 23 #[.int .u8 ok, .int .i64 on] := blk_step BO hb
  replace BX : Blk w4 (w2.heap.size) 25 #[.int .u8 xk, .int .i64 xn] := blk_step BX hb
  replace BR : Blk w4 (w3.heap.size) 23 #[.int .u8 xk, .int .i64 xn] := blk_step BR hb
  replace HB : Below w.heap.size w w4 := keepW HB hb
  clear hb
  go_upto_if 31 with fail
  go_cut [12] from 17 (fun c wc => c = .int .i64 (if p1 = true then -1 else 0) ∧ wc = w4)
  case first =>
    cases p1 with
    | true =>
      go_wp2
      go_meet
      case rel => exact ⟨rfl, rfl⟩
    | false =>
      go_wp2
      go_meet
      case rel => exact ⟨rfl, rfl⟩
  case rest =>
    obtain ⟨rfl, rfl⟩ := hcut
    generalize (if p1 = true then -1 else 0 : Int) = c1 at *
    have cS0 : wc.cell? ⟨w.heap.size, 0, none⟩ = some (.int .u8 sk) := BS.cell 0
    have cS1 : wc.cell? ⟨w.heap.size, 1, none⟩ = some (.int .i64 sn) := BS.cell 1
    have cO0 : wc.cell? ⟨w.heap.size + 1, 0, none⟩ = some (.int .u8 ok) := BO.cell 0
    have cO1 : wc.cell? ⟨w.heap.size + 1, 1, none⟩ = some (.int .i64 on) := BO.cell 1
    have cX0 : wc.cell? ⟨w2.heap.size, 0, none⟩ = some (.int .u8 xk) := BX.cell 0
    have cX1 : wc.cell? ⟨w2.heap.size, 1, none⟩ = some (.int .i64 xn) := BX.cell 1
    have cR0 : wc.cell? ⟨w3.heap.size, 0, none⟩ = some (.int .u8 xk) := BR.cell 0
    have cR1 : wc.cell? ⟨w3.heap.size, 1, none⟩ = some (.int .i64 xn) := BR.cell 1
    go_wp2_with fail
    clear cS0 cS1 cO0 cO1 cX0 cX1 cR0 cR1
    refine (A2.out _).mono ?_
    rintro e w5 ⟨rfl, hb⟩
    replace BS : Blk w5 (w.heap.size) 23 #[.int .u8 sk, .int .i64 sn] := blk_step BS hb
    replace BO : Blk w5 (w.heap.size + 1) 23 #[.int .u8 ok, .int .i64 on] := blk_step BO hb
    replace BX : Blk w5 (w2.heap.size) 25 #[.int .u8 xk, .int .i64 xn] := blk_step BX hb
    replace BR : Blk w5 (w3.heap.size) 23 #[.int .u8 xk, .int .i64 xn] := blk_step BR hb
    replace HB : Below w.heap.size w w5 := keepW HB hb
    clear hb
    go_upto_if 34 with fail
    go_cut [12] from 17 (fun c wc => c = .int .i64 (if p2 = true then 1 else c1) ∧ wc = w5)
    case first =>
      cases p2 with
      | true =>
        go_wp2
        go_meet
        case rel => exact ⟨rfl, rfl⟩
      | false =>
        go_wp2
        go_meet
        case rel => exact ⟨rfl, rfl⟩
    case rest =>
      obtain ⟨rfl, rfl⟩ := hcut
      rw [HCC.out]
      have cS0 : wc.cell? ⟨w.heap.size, 0, none⟩ = some (.int .u8 sk) := BS.cell 0
      have cS1 : wc.cell? ⟨w.heap.size, 1, none⟩ = some (.int .i64 sn) := BS.cell 1
      have cO0 : wc.cell? ⟨w.heap.size + 1, 0, none⟩ = some (.int .u8 ok) := BO.cell 0
      have cO1 : wc.cell? ⟨w.heap.size + 1, 1, none⟩ = some (.int .i64 on) := BO.cell 1
      have cX0 : wc.cell? ⟨w2.heap.size, 0, none⟩ = some (.int .u8 xk) := BX.cell 0
      have cX1 : wc.cell? ⟨w2.heap.size, 1, none⟩ = some (.int .i64 xn) := BX.cell 1
      have cR0 : wc.cell? ⟨w3.heap.size, 0, none⟩ = some (.int .u8 xk) := BR.cell 0
      have cR1 : wc.cell? ⟨w3.heap.size, 1, none⟩ = some (.int .i64 xn) := BR.cell 1
      go_wp2_with fail
      clear cS0 cS1 cO0 cO1 cX0 cX1 cR0 cR1
      refine (RS.out _).mono ?_
      rintro e w6 ⟨rfl, hb⟩
      replace BS : Blk w6 (w.heap.size) 23 #[.int .u8 sk, .int .i64 sn] := blk_step BS hb
      replace BO : Blk w6 (w.heap.size + 1) 23 #[.int .u8 ok, .int .i64 on] := blk_step BO hb
      replace BX : Blk w6 (w2.heap.size) 25 #[.int .u8 xk, .int .i64 xn] := blk_step BX hb
      replace BR : Blk w6 (w3.heap.size) 23 #[.int .u8 xk, .int .i64 xn] := blk_step BR hb
      replace HB : Below w.heap.size w w6 := keepW HB hb
      clear hb
      have cS0 : w6.cell? ⟨w.heap.size, 0, none⟩ = some (.int .u8 sk) := BS.cell 0
      have cS1 : w6.cell? ⟨w.heap.size, 1, none⟩ = some (.int .i64 sn) := BS.cell 1
      have cO0 : w6.cell? ⟨w.heap.size + 1, 0, none⟩ = some (.int .u8 ok) := BO.cell 0
      have cO1 : w6.cell? ⟨w.heap.size + 1, 1, none⟩ = some (.int .i64 on) := BO.cell 1
      have cX0 : w6.cell? ⟨w2.heap.size, 0, none⟩ = some (.int .u8 xk) := BX.cell 0
      have cX1 : w6.cell? ⟨w2.heap.size, 1, none⟩ = some (.int .i64 xn) := BX.cell 1
      have cR0 : w6.cell? ⟨w3.heap.size, 0, none⟩ = some (.int .u8 xk) := BR.cell 0
      have cR1 : w6.cell? ⟨w3.heap.size, 1, none⟩ = some (.int .i64 xn) := BR.cell 1
      go_wp2_with fail
      clear cS0 cS1 cO0 cO1 cX0 cX1 cR0 cR1
      refine (CM.out _).mono ?_
      rintro e w7 ⟨rfl, hb⟩
      replace BS : Blk w7 (w.heap.size) 23 #[.int .u8 sk, .int .i64 sn] := blk_step BS hb
      replace BO : Blk w7 (w.heap.size + 1) 23 #[.int .u8 ok, .int .i64 on] := blk_step BO hb
      replace BX : Blk w7 (w2.heap.size) 25 #[.int .u8 xk, .int .i64 xn] := blk_step BX hb
      replace BR : Blk w7 (w3.heap.size) 23 #[.int .u8 xk, .int .i64 xn] := blk_step BR hb
      replace HB : Below w.heap.size w w7 := keepW HB hb
      clear hb
      go_wp2_with fail
      refine (OB.out _).mono ?_
      rintro e w8 ⟨rfl, hb⟩
      obtain ⟨W8, hW8⟩ : ∃ W8, W8 = w8.alloc (.cells #[.int .u8 yk, .int .i64 yn] 25) := ⟨_, rfl⟩
      replace BS : Blk W8 (w.heap.size) 23 #[.int .u8 sk, .int .i64 sn] := by rw [hW8]; exact (blk_step BS hb).alloc _
      replace BO : Blk W8 (w.heap.size + 1) 23 #[.int .u8 ok, .int .i64 on] := by rw [hW8]; exact (blk_step BO hb).alloc _
      replace BX : Blk W8 (w2.heap.size) 25 #[.int .u8 xk, .int .i64 xn] := by rw [hW8]; exact (blk_step BX hb).alloc _
      replace BR : Blk W8 (w3.heap.size) 23 #[.int .u8 xk, .int .i64 xn] := by rw [hW8]; exact (blk_step BR hb).alloc _
      have BY : Blk W8 (w8.heap.size) 25 #[.int .u8 yk, .int .i64 yn] := by rw [hW8]; exact Blk.new _ _ _
      replace HB : Below w.heap.size w W8 := by rw [hW8]; exact (keepW HB hb).alloc (keepW HB hb).size _
      clear hb
      go_upto_region 12 with fail
      rw [← hW8]
      clear hW8
      have cS0 : W8.cell? ⟨w.heap.size, 0, none⟩ = some (.int .u8 sk) := BS.cell 0
      have cS1 : W8.cell? ⟨w.heap.size, 1, none⟩ = some (.int .i64 sn) := BS.cell 1
      have cO0 : W8.cell? ⟨w.heap.size + 1, 0, none⟩ = some (.int .u8 ok) := BO.cell 0
      have cO1 : W8.cell? ⟨w.heap.size + 1, 1, none⟩ = some (.int .i64 on) := BO.cell 1
      have cX0 : W8.cell? ⟨w2.heap.size, 0, none⟩ = some (.int .u8 xk) := BX.cell 0
      have cX1 : W8.cell? ⟨w2.heap.size, 1, none⟩ = some (.int .i64 xn) := BX.cell 1
      have cR0 : W8.cell? ⟨w3.heap.size, 0, none⟩ = some (.int .u8 xk) := BR.cell 0
      have cR1 : W8.cell? ⟨w3.heap.size, 1, none⟩ = some (.int .i64 xn) := BR.cell 1
      have cY0 : W8.cell? ⟨w8.heap.size, 0, none⟩ = some (.int .u8 yk) := BY.cell 0
      have cY1 : W8.cell? ⟨w8.heap.size, 1, none⟩ = some (.int .i64 yn) := BY.cell 1
      go_wp2_with fail
      clear cS0 cS1 cO0 cO1 cX0 cX1 cR0 cR1 cY0 cY1
      refine (NO.out _).mono ?_
      rintro e w9 ⟨rfl, hb⟩
      replace BS : Blk w9 (w.heap.size) 23 #[.int .u8 sk, .int .i64 sn] := blk_step BS hb
      replace BO : Blk w9 (w.heap.size + 1) 23 #[.int .u8 ok, .int .i64 on] := blk_step BO hb
      replace BX : Blk w9 (w2.heap.size) 25 #[.int .u8 xk, .int .i64 xn] := blk_step BX hb
      replace BR : Blk w9 (w3.heap.size) 23 #[.int .u8 xk, .int .i64 xn] := blk_step BR hb
      replace BY : Blk w9 (w8.heap.size) 25 #[.int .u8 yk, .int .i64 yn] := blk_step BY hb
      replace HB : Below w.heap.size w w9 := keepW HB hb
      clear hb
      have cS0 : w9.cell? ⟨w.heap.size, 0, none⟩ = some (.int .u8 sk) := BS.cell 0
      have cS1 : w9.cell? ⟨w.heap.size, 1, none⟩ = some (.int .i64 sn) := BS.cell 1
      have cO0 : w9.cell? ⟨w.heap.size + 1, 0, none⟩ = some (.int .u8 ok) := BO.cell 0
      have cO1 : w9.cell? ⟨w.heap.size + 1, 1, none⟩ = some (.int .i64 on) := BO.cell 1
      have cX0 : w9.cell? ⟨w2.heap.size, 0, none⟩ = some (.int .u8 xk) := BX.cell 0
      have cX1 : w9.cell? ⟨w2.heap.size, 1, none⟩ = some (.int .i64 xn) := BX.cell 1
      have cR0 : w9.cell? ⟨w3.heap.size, 0, none⟩ = some (.int .u8 xk) := BR.cell 0
      have cR1 : w9.cell? ⟨w3.heap.size, 1, none⟩ = some (.int .i64 xn) := BR.cell 1
      have cY0 : w9.cell? ⟨w8.heap.size, 0, none⟩ = some (.int .u8 yk) := BY.cell 0
      have cY1 : w9.cell? ⟨w8.heap.size, 1, none⟩ = some (.int .i64 yn) := BY.cell 1
      cases b1 with
      | false =>
        have hN := HOK.out rfl
        subst hN
        go_wp2_with fail
        refine (AL.out _).mono ?_
        rintro e w10 ⟨rfl, hb⟩
        have cX0' : w10.cell? ⟨w2.heap.size, 0, none⟩ = some (.int .u8 xk) := (blk_step BX hb).cell 0
        have cX1' : w10.cell? ⟨w2.heap.size, 1, none⟩ = some (.int .i64 xn) := (blk_step BX hb).cell 1
        have cY0' : w10.cell? ⟨w8.heap.size, 0, none⟩ = some (.int .u8 yk) := (blk_step BY hb).cell 0
        have cY1' : w10.cell? ⟨w8.heap.size, 1, none⟩ = some (.int .i64 yn) := (blk_step BY hb).cell 1
        have cS0' : w10.cell? ⟨w.heap.size, 0, none⟩ = some (.int .u8 sk) := (blk_step BS hb).cell 0
        have cS1' : w10.cell? ⟨w.heap.size, 1, none⟩ = some (.int .i64 sn) := (blk_step BS hb).cell 1
        have HB10 := keepW HB hb
        clear hb cX0 cX1 cY0 cY1 cS0 cS1
        cases bf with
        | true =>
          have hNF := HNX.out (by first | rfl | trivial)
          subst hNF
          go_wp2_with fail
          refine (NX.out (by first | rfl | trivial) _).mono ?_
          rintro e w11 ⟨rfl, hb⟩
          go_wp2_with fail
          go_ret
          exact ⟨rfl, keepW HB10 hb⟩
        | false =>
          go_wp2_with fail
          go_ret
          exact ⟨rfl, HB10⟩
      | true =>
        obtain ⟨n1, n2, n3, n4⟩ := str_facts (HSZ.out rfl)
        obtain ⟨e1, e2⟩ := HYK.out rfl
        subst e1 e2
        cases b2 with
        | false =>
          have hM := HOK2.out rfl
          subst hM
          go_wp2_with fail
          refine (AL.out _).mono ?_
          rintro e w10 ⟨rfl, hb⟩
          have cX0' : w10.cell? ⟨w2.heap.size, 0, none⟩ = some (.int .u8 xk) := (blk_step BX hb).cell 0
          have cX1' : w10.cell? ⟨w2.heap.size, 1, none⟩ = some (.int .i64 xn) := (blk_step BX hb).cell 1
          have cY0' : w10.cell? ⟨w8.heap.size, 0, none⟩ = some (.int .u8 yk) := (blk_step BY hb).cell 0
          have cY1' : w10.cell? ⟨w8.heap.size, 1, none⟩ = some (.int .i64 yn) := (blk_step BY hb).cell 1
          have cS0' : w10.cell? ⟨w.heap.size, 0, none⟩ = some (.int .u8 yk) := (blk_step BS hb).cell 0
          have cS1' : w10.cell? ⟨w.heap.size, 1, none⟩ = some (.int .i64 yn) := (blk_step BS hb).cell 1
          have HB10 := keepW HB hb
          clear hb cX0 cX1 cY0 cY1 cS0 cS1
          cases bf with
          | true =>
            have hNF := HNX.out (by first | rfl | trivial)
            subst hNF
            go_wp2_with fail
            refine (NX.out (by first | rfl | trivial) _).mono ?_
            rintro e w11 ⟨rfl, hb⟩
            go_wp2_with fail
            go_ret
            exact ⟨rfl, keepW HB10 hb⟩
          | false =>
            go_wp2_with fail
            go_ret
            exact ⟨rfl, HB10⟩
        | true =>
          obtain ⟨m1, m2, m3, m4⟩ := str_facts (HSZ2.out rfl)
          by_cases hk : yk = ok
          · have hbb := HBB.out rfl rfl (HKO.out hk)
            subst hk
            by_cases hlt : yn < on
            · have hl2 : decide (yn < on) = true := decide_eq_true hlt
              rw [hl2, ← ByteArray.toList_eq, ← ByteArray.toList_eq, ← less_before] at hbb
              go_wp2_with fail
              refine (AL.out _).mono ?_
              rintro e w10 ⟨rfl, hb⟩
              have cX0' : w10.cell? ⟨w2.heap.size, 0, none⟩ = some (.int .u8 xk) := (blk_step BX hb).cell 0
              have cX1' : w10.cell? ⟨w2.heap.size, 1, none⟩ = some (.int .i64 xn) := (blk_step BX hb).cell 1
              have cY0' : w10.cell? ⟨w8.heap.size, 0, none⟩ = some (.int .u8 yk) := (blk_step BY hb).cell 0
              have cY1' : w10.cell? ⟨w8.heap.size, 1, none⟩ = some (.int .i64 yn) := (blk_step BY hb).cell 1
              have cS0' : w10.cell? ⟨w.heap.size, 0, none⟩ = some (.int .u8 yk) := (blk_step BS hb).cell 0
              have cS1' : w10.cell? ⟨w.heap.size, 1, none⟩ = some (.int .i64 yn) := (blk_step BS hb).cell 1
              have HB10 := keepW HB hb
              clear hb cX0 cX1 cY0 cY1 cS0 cS1
              cases bf with
              | true =>
                have hNF := HNX.out (by first | rfl | trivial)
                subst hNF
                go_wp2_with fail
                refine (NX.out (by first | rfl | trivial) _).mono ?_
                rintro e w11 ⟨rfl, hb⟩
                go_wp2_with fail
                go_ret
                exact ⟨rfl, keepW HB10 hb⟩
              | false =>
                go_wp2_with fail
                go_ret
                exact ⟨rfl, HB10⟩
            · have hl2 : decide (yn < on) = false := decide_eq_false hlt
              rw [hl2, ← ByteArray.toList_eq, ← ByteArray.toList_eq, ← less_before] at hbb
              go_wp2_with fail
              refine (AL.out _).mono ?_
              rintro e w10 ⟨rfl, hb⟩
              have cX0' : w10.cell? ⟨w2.heap.size, 0, none⟩ = some (.int .u8 xk) := (blk_step BX hb).cell 0
              have cX1' : w10.cell? ⟨w2.heap.size, 1, none⟩ = some (.int .i64 xn) := (blk_step BX hb).cell 1
              have cY0' : w10.cell? ⟨w8.heap.size, 0, none⟩ = some (.int .u8 yk) := (blk_step BY hb).cell 0
              have cY1' : w10.cell? ⟨w8.heap.size, 1, none⟩ = some (.int .i64 yn) := (blk_step BY hb).cell 1
              have cS0' : w10.cell? ⟨w.heap.size, 0, none⟩ = some (.int .u8 yk) := (blk_step BS hb).cell 0
              have cS1' : w10.cell? ⟨w.heap.size, 1, none⟩ = some (.int .i64 yn) := (blk_step BS hb).cell 1
              have HB10 := keepW HB hb
              clear hb cX0 cX1 cY0 cY1 cS0 cS1
              cases bf with
              | true =>
                have hNF := HNX.out (by first | rfl | trivial)
                subst hNF
                go_wp2_with fail
                refine (NX.out (by first | rfl | trivial) _).mono ?_
                rintro e w11 ⟨rfl, hb⟩
                go_wp2_with fail
                go_ret
                exact ⟨rfl, keepW HB10 hb⟩
              | false =>
                go_wp2_with fail
                go_ret
                exact ⟨rfl, HB10⟩
          · have hk2 : (yk != ok) = true := by rw [bne_iff_ne]; exact hk
            go_wp2_with fail
            refine (AL.out _).mono ?_
            rintro e w10 ⟨rfl, hb⟩
            have cX0' : w10.cell? ⟨w2.heap.size, 0, none⟩ = some (.int .u8 xk) := (blk_step BX hb).cell 0
            have cX1' : w10.cell? ⟨w2.heap.size, 1, none⟩ = some (.int .i64 xn) := (blk_step BX hb).cell 1
            have cY0' : w10.cell? ⟨w8.heap.size, 0, none⟩ = some (.int .u8 yk) := (blk_step BY hb).cell 0
            have cY1' : w10.cell? ⟨w8.heap.size, 1, none⟩ = some (.int .i64 yn) := (blk_step BY hb).cell 1
            have cS0' : w10.cell? ⟨w.heap.size, 0, none⟩ = some (.int .u8 yk) := (blk_step BS hb).cell 0
            have cS1' : w10.cell? ⟨w.heap.size, 1, none⟩ = some (.int .i64 yn) := (blk_step BS hb).cell 1
            have HB10 := keepW HB hb
            clear hb cX0 cX1 cY0 cY1 cS0 cS1
            cases bf with
            | true =>
              have hNF := HNX.out (by first | rfl | trivial)
              subst hNF
              go_wp2_with fail
              refine (NX.out (by first | rfl | trivial) _).mono ?_
              rintro e w11 ⟨rfl, hb⟩
              go_wp2_with fail
              go_ret
              exact ⟨rfl, keepW HB10 hb⟩
            | false =>
              go_wp2_with fail
              go_ret
              exact ⟨rfl, HB10⟩
end SgM
end Go.Proofs.Ytefknfbmphdafaa
