/- Each file once: the walk of slices.Compact at the log's files. -/
import Derived.Test.YtefknfbmphdafaaGreatSgC
import Derived.Shelf.RegionOpenPlain
import Derived.WalkKit
import Derived.Deep.LoopGhost
import Derived.Deep.Draws
import Derived.Lib.Walk
import Derived.Lib.SliceRun
namespace Go.Proofs.YtefknfbmphdafaaGreat
namespace SgM
open Go Go.RowKit CrcM FrM Go.Lib Go.Sort
open Ds (Blk)

/-- A block that holds files, and what is behind them. -/
def RwS (w : World) (g : Nat) (L : List Sg) (R : List Value) : Prop := Blk w g 25 (sgC L ++ R).toArray
theorem RwS.cell {w : World} {g : Nat} {L : List Sg} {R : List Value} (h : RwS w g L R) (i : Nat) (hi : i < L.length) :
    w.cell? ⟨g, i * 2, none⟩ = some (.int .u8 (L[i].k.toNat : Nat)) ∧ w.cell? ⟨g, i * 2 + 1, none⟩ = some (.int .i64 L[i].n) := by
  obtain ⟨g1, g2⟩ := sgC_get L i hi
  rw [Nat.mul_comm] at g1 g2
  have hl := sgC_len L
  refine ⟨(Blk.cell h _).trans ?_, (Blk.cell h _).trans ?_⟩
  · rw [List.getElem?_toArray, List.getElem?_append_left (by omega)]; exact g1
  · rw [List.getElem?_toArray, List.getElem?_append_left (by omega)]; exact g2
theorem list_set2 : ∀ (L : List Sg) (R : List Value) (i : Nat) (s : Sg), i < L.length → ((sgC L ++ R).set (i * 2) (.int .u8 (s.k.toNat : Nat))).set (i * 2 + 1) (.int .i64 s.n) = sgC (L.set i s) ++ R
  | t :: r, R, 0, s, _ => rfl
  | t :: r, R, i + 1, s, h => by
    have := list_set2 r R i s (by simpa using h)
    rw [sgC_cons, List.set_cons_succ, sgC_cons, show (i + 1) * 2 = i * 2 + 1 + 1 by omega, List.cons_append, List.cons_append, List.set_cons_succ, List.set_cons_succ, List.set_cons_succ, List.set_cons_succ, this]
    rfl
theorem RwS.set {w : World} {g : Nat} {L : List Sg} {R : List Value} (h : RwS w g L R) (i : Nat) (hi : i < L.length) (s : Sg) :
    RwS ((w.setCell ⟨g, i * 2, none⟩ (.int .u8 (s.k.toNat : Nat))).setCell ⟨g, i * 2 + 1, none⟩ (.int .i64 s.n)) g (L.set i s) R := by
  have := (Blk.set_ h (i * 2) (.int .u8 (s.k.toNat : Nat))).set_ (i * 2 + 1) (.int .i64 s.n)
  unfold RwS
  rw [← list_set2 L R i s hi]
  simpa using this
theorem blk_setCells (g : Nat) (t : TypeId) : ∀ (vs : List Value) (o : Nat) (w : World) (cs : Array Value), Blk w g t cs → Blk (w.setCells g o vs) g t (setMany cs o vs)
  | [], _, _, _, h => h
  | v :: r, o, _, _, h => blk_setCells g t r (o + 1) _ _ (Blk.set_ h o v)
theorem setMany_mid : ∀ (zl old A R : List Value), zl.length = old.length → setMany (A ++ old ++ R).toArray A.length zl = (A ++ zl ++ R).toArray
  | [], [], _, _, _ => rfl
  | v :: z, u :: o, A, R, h => by
    have := setMany_mid z o (A ++ [v]) R (by simpa using h)
    have e : ((A ++ u :: o ++ R).toArray.setIfInBounds A.length v) = (A ++ [v] ++ o ++ R).toArray := by simp
    rw [setMany, e, show A.length + 1 = (A ++ [v]).length by simp, this]
    simp
theorem grown_set {w wr : World} {g : Nat} (h : w.grownBy wr (some g)) (i : Nat) (u : Value) : w.grownBy (wr.setCell ⟨g, i, none⟩ u) (some g) :=
  ⟨h.os, h.tape, h.output, by simpa using h.size, fun k hk hne => (Below.heap_setCell wr _ u k (fun e => hne (by rw [e]))).trans (h.block k hk hne)⟩
theorem grown_sets {w : World} {g : Nat} : ∀ (vs : List Value) (o : Nat) (wr : World), w.grownBy wr (some g) → w.grownBy (wr.setCells g o vs) (some g)
  | [], _, _, h => h
  | v :: r, o, _, h => grown_sets r (o + 1) _ (grown_set h o v)
theorem RwS.clear {w : World} {g : Nat} {L : List Sg} {R : List Value} (h : RwS w g L R) (k : Nat) (hk : k ≤ L.length) (zl : List Value) (hz : zl.length = (L.length - k) * 2) :
    RwS (w.setCells g (k * 2) zl) g (L.take k) (zl ++ R) := by
  have h1 := blk_setCells g 25 zl (k * 2) w _ h
  have h2 := setMany_mid zl (sgC (L.drop k)) (sgC (L.take k)) R (by rw [hz, sgC_len, List.length_drop])
  rw [← sgC_app, List.take_append_drop, sgC_len, List.length_take, show min k L.length = k by omega] at h2
  rw [h2] at h1
  unfold RwS
  rw [← List.append_assoc]
  exact h1
theorem RwS.frozen {w : World} {g : Nat} {L : List Sg} {R : List Value} (h : RwS w g L R) (i : Nat) : w.frozen? ⟨g, i, none⟩ = false := Blk.frozen h i
def zl2 (n : Nat) : List Value := (Builtin.zeroCells #[.int .u8 0, .int .i64 0] n).toList
theorem zl2_len (n : Nat) : (zl2 n).length = n * 2 := by simp [zl2, Builtin.zeroCells]
theorem zl2_one (n : Nat) : ∀ v ∈ zl2 n, v.oneCell' = true := by
  intro v hv
  simp [zl2, Builtin.zeroCells] at hv
  obtain ⟨i, -, rfl⟩ := hv
  have : i % 2 = 0 ∨ i % 2 = 1 := by omega
  rcases this with h | h <;> rw [h] <;> rfl
theorem clear_sg {w : World} {g : Nat} {L : List Sg} {R : List Value} (h : RwS w g L R) (k : Nat) (hk : k < L.length) (o c : Nat) (ho : o = k * 2) (ty : TypeId) :
    (Builtin.clear_ #[26] ty #[.slice (some ⟨g, o, none⟩) (L.length - k) c]).run Tryz.prog w = .ok (.tuple #[]) (w.setCells g o (zl2 (L.length - k))) := by
  subst ho
  have hsz : (sgC L ++ R).toArray.size = L.length * 2 + R.length := by simp [sgC_len]
  have hst := run_storeCells_cells (P := Tryz.prog) g (k * 2) (zl2 (L.length - k)) 0 w (fun j hj => by
      rw [zl2_len] at hj
      rw [Blk.cell h, Array.getElem?_eq_getElem (by rw [hsz]; omega)]; rfl) (fun j _ => Blk.frozen h _) (zl2_one _)
  simp only [Nat.add_zero] at hst
  obtain ⟨m, hm⟩ : ∃ m, L.length - k = m + 1 := ⟨L.length - k - 1, by omega⟩
  rw [hm] at hst ⊢
  have hz : ∀ w, (zeroValue 25).run Tryz.prog w = .ok (.agg #[.int .u8 0, .int .i64 0]) w := Tryz.zeroValue25
  have hzl : (Builtin.zeroCells (Value.agg #[.int .u8 0, .int .i64 0]).cells (m + 1)).toList = zl2 (m + 1) := rfl
  simp [Builtin.clear_, run_underlying Tryz.underlying26, hz, hzl, hst]

theorem keeps_up {d : Array Sg} {k : Nat} (h : ∀ j, j < k → keeps d j = true) (hk : keeps d k = true) : ∀ j, j < k + 1 → keeps d j = true := by
  intro j hj
  by_cases e : j = k
  · rw [e]; exact hk
  · exact h j (by omega)
theorem grown_drew {w wr : World} {r : Option Nat} (h : w.grownBy wr r) : w.grownBy wr.drew r := ⟨h.os, h.tape, h.output, h.size, h.block⟩
set_option maxHeartbeats 4000000 in
set_option maxRecDepth 1000000 in
theorem compact_any {w : World} {blk cap : Nat} {d : Array Sg} {R : List Value} (h0 : RwS w blk d.toList R) (hsz : d.size ≤ 1000) (hcap : d.size ≤ cap) (hcap2 : cap ≤ 9223372036854775807) :
    Calls Tryz.prog 33 #[.slice (some ⟨blk, 0, none⟩) d.size cap] w fun e w' =>
      e = .returned (.slice (some ⟨blk, 0, none⟩) (compactUpTo d d.size).length cap) ∧ ∃ R', R'.length + (compactUpTo d d.size).length * 2 = R.length + d.size * 2 ∧ RwS w' blk (compactUpTo d d.size) R' ∧ w.grownBy w' (some blk) := by
  have same : ∀ wr, w.grownBy wr (some blk) → RwS wr blk d.toList R → (∀ j, j < d.size → keeps d j = true) → (compactUpTo d d.size).length = d.size ∧ ∃ R', R'.length + (compactUpTo d d.size).length * 2 = R.length + d.size * 2 ∧ RwS wr blk (compactUpTo d d.size) R' ∧ w.grownBy wr (some blk) := by
    intro wr hg hr hall
    have e : compactUpTo d d.size = d.toList := by rw [compactUpTo_all d _ hall, range_map_get]
    rw [e]
    exact ⟨by simp, R, by simp, hr, hg⟩
  obtain ⟨off, hoff⟩ : ∃ off : Nat, off = 0 := ⟨_, rfl⟩
  have HO : Hid (off = 0) := Lib.hid hoff
  rw [show (Value.slice (some ⟨blk, 0, none⟩) d.size cap) = .slice (some ⟨blk, off, none⟩) d.size cap by rw [hoff]]
  have HS := Lib.hid same
  clear same hoff
  have hgw : w.grownBy w (some blk) := ⟨rfl, rfl, rfl, Nat.le_refl _, fun _ _ _ => rfl⟩
  have HG0 := Lib.hid hgw
  have H0 := Lib.hid h0
  clear h0 hgw
  by_cases h2 : d.size < 2
  · go_enter Tryz.func33, Tryz.ntmps33
    go_wp2
    go_ret
    obtain ⟨e1, e2⟩ := HS.out w HG0.out H0.out (fun j hj => keeps_lt_one d j (by omega))
    exact ⟨by rw [e1, HO.out]; rfl, e2⟩
  · go_enter Tryz.func33, Tryz.ntmps33
    go_wp2
    go_loopg [3] d.size (fun g s3 wr => ∃ k : Nat, 1 ≤ k ∧ k ≤ d.size ∧ d.size - k ≤ g ∧ s3 = .int .i64 k ∧ w.grownBy wr (some blk) ∧ RwS wr blk d.toList R ∧ ∀ j, j < k → keeps d j = true)
    case atStart => exact ⟨1, Nat.le_refl _, by omega, by omega, rfl, HG0.out, H0.out, keeps_lt_one d⟩
    case round =>
      obtain ⟨k, hk1, hk, hg, rfl, hgr, hrw, hall⟩ := hrel
      by_cases hlt : k < d.size
      · obtain ⟨c1, c1'⟩ := hrw.cell k (by simpa using hlt)
        obtain ⟨c0, c0'⟩ := hrw.cell (k - 1) (by simp; omega)
        have ea : d.toList[k]'(by simpa using hlt) = d[k]! := by rw [getElem!_pos d k hlt]; simp
        have eb : d.toList[k - 1]'(by simp; omega) = d[k - 1]! := by rw [getElem!_pos d (k - 1) (by omega)]; simp
        rw [ea] at c1 c1'
        rw [eb] at c0 c0'
        have eo : ∀ i, (⟨blk, i, none⟩ : Addr) = ⟨blk, off + i, none⟩ := fun i => by rw [HO.out, Nat.zero_add]
        rw [eo] at c0 c0' c1 c1'
        rw [← Nat.add_assoc] at c0' c1'
        have A := Lib.hid hall
        have HH := Lib.hid hrw
        have HG := Lib.hid hgr
        clear hall hrw hgr ea eb eo
        generalize hx : d[k]! = x at c1 c1'
        generalize hy : d[k - 1]! = y at c0 c0'
        have B := Lib.hid (show d[k]! = x ∧ d[k - 1]! = y from ⟨hx, hy⟩)
        clear hx hy
        by_cases hdup : x = y
        · subst hdup
          generalize (x.k.toNat : Int) = xk at c0 c1
          generalize x.n = xn at c0' c1'
          go_wp2_with fail
          go_region
          go_wp2
          clear c0 c1 c0' c1'
          go_loopg [3, 5] d.size (fun g s3 s5 wr => ∃ (kk k2 : Nat) (dk : Array Sg), s3 = .int .i64 kk ∧ s5 = .int .i64 k2 ∧ 1 ≤ k2 ∧ k + k2 ≤ d.size ∧ d.size - (k + k2) ≤ g ∧ w.grownBy wr (some blk) ∧ RwS wr blk dk.toList R ∧ CompInv d (k + k2) kk dk)
          case atStart => exact ⟨k, 1, d, rfl, rfl, Nat.le_refl _, by omega, by omega, grown_drew HG.out, HH.out, CompInv.start A.out (keeps_neg (by omega) (by rw [B.out.1, B.out.2]))⟩
          case round =>
            obtain ⟨kk, k2, dk, rfl, rfl, h1, hle, hg2, hgr2, hrw2, hI⟩ := hrel
            have hkk := hI.lt
            have hds := hI.size
            have I2 := Lib.hid hI
            have H2 := Lib.hid hrw2
            have G2 := Lib.hid hgr2
            clear hrw2 hgr2 hI
            by_cases hlt2 : k + k2 < d.size
            · obtain ⟨cm, cm'⟩ := H2.out.cell (k + k2) (by simp; omega)
              obtain ⟨cp, cp'⟩ := H2.out.cell (k + k2 - 1) (by simp; omega)
              obtain ⟨ck, ck'⟩ := H2.out.cell kk (by simp; omega)
              have em : dk.toList[k + k2]'(by simp; omega) = d[k + k2]! := by rw [← I2.out.high (k + k2) (by omega), getElem!_pos dk (k + k2) (by omega)]; simp
              have ep : dk.toList[k + k2 - 1]'(by simp; omega) = d[k + k2 - 1]! := by rw [← I2.out.high (k + k2 - 1) (by omega), getElem!_pos dk (k + k2 - 1) (by omega)]; simp
              rw [em] at cm cm'
              rw [ep] at cp cp'
              have fk : ∀ i, wr.frozen? ⟨blk, i, none⟩ = false := H2.out.frozen
              have eo : ∀ i, (⟨blk, i, none⟩ : Addr) = ⟨blk, off + i, none⟩ := fun i => by rw [HO.out, Nat.zero_add]
              have fk0 : wr.frozen? ⟨blk, off + kk * 2, none⟩ = false := fk _
              have fk1 : wr.frozen? ⟨blk, off + kk * 2 + 1, none⟩ = false := fk _
              rw [eo, show off + (k + k2) * 2 = off + k * 2 + k2 * 2 by omega] at cm
              rw [eo, show off + ((k + k2) * 2 + 1) = off + k * 2 + k2 * 2 + 1 by omega] at cm'
              rw [eo, show off + (k + k2 - 1) * 2 = off + k * 2 + (k2 - 1) * 2 by omega] at cp
              rw [eo, show off + ((k + k2 - 1) * 2 + 1) = off + k * 2 + (k2 - 1) * 2 + 1 by omega] at cp'
              rw [eo] at ck ck'
              rw [← Nat.add_assoc] at ck'
              clear em ep eo fk
              generalize hu : d[k + k2]! = u at cm cm'
              generalize hv : d[k + k2 - 1]! = v at cp cp'
              generalize (dk.toList[kk]'(by simp; omega)).k.toNat = ok1 at ck
              generalize (dk.toList[kk]'(by simp; omega)).n = ok2 at ck'
              have C := Lib.hid (show d[k + k2]! = u ∧ d[k + k2 - 1]! = v from ⟨hu, hv⟩)
              clear hu hv
              by_cases huv : u = v
              · subst huv
                generalize (u.k.toNat : Int) = uk at cm cp
                generalize u.n = un at cm' cp'
                go_wp2_with fail
                go_region
                go_wp2
                go_roundg (d.size - (k + (k2 + 1)))
                case measure => omega
                case rel => exact ⟨kk, k2 + 1, dk, rfl, by go_num, by omega, by omega, Nat.le_refl _, grown_drew G2.out, H2.out, I2.out.skip (keeps_neg (by omega) (by rw [C.out.1, C.out.2]))⟩
              · have hne : ¬ ((u.k.toNat : Int) = v.k.toNat) ∨ ¬ (u.n = v.n) := by
                  by_cases e : (u.k.toNat : Int) = v.k.toNat
                  · right; exact fun e2 => huv (sg_ext (UInt8.toNat_inj.1 (by omega)) e2)
                  · left; exact e
                have H3 : RwS ((wr.setCell ⟨blk, off + kk * 2, none⟩ (.int .u8 (u.k.toNat : Nat))).setCell ⟨blk, off + kk * 2 + 1, none⟩ (.int .i64 u.n)) blk (dk.setIfInBounds kk u).toList R := by
                  have := H2.out.set kk (by simp; omega) u
                  rw [HO.out, Nat.zero_add]
                  simpa using this
                have hkp : keeps d (k + k2) = true := keeps_pos (by rw [C.out.1, C.out.2]; exact huv)
                have H5 := I2.out.keep hlt2 hkp
                rw [C.out.1] at H5
                replace H5 := Lib.hid H5
                generalize huk : (u.k.toNat : Int) = uk at cm hne H3
                generalize (v.k.toNat : Int) = vk at cp hne
                generalize hun : u.n = un at cm' hne H3
                generalize v.n = vn at cp' hne
                have HN := Lib.hid hne
                replace H3 := Lib.hid H3
                clear huv hne hkp huk hun
                by_cases e1 : uk = vk
                · have e2 : ¬ un = vn := HN.out.resolve_left (fun h => h e1)
                  subst e1
                  go_wp2_with fail
                  go_region
                  go_wp2
                  go_roundg (d.size - (k + (k2 + 1)))
                  case measure => omega
                  case rel => exact ⟨kk + 1, k2 + 1, dk.setIfInBounds kk u, by go_num, by go_num, by omega, by omega, Nat.le_refl _, grown_drew (grown_set (grown_set G2.out _ _) _ _), H3.out, H5.out⟩
                · go_wp2_with fail
                  go_region
                  go_wp2
                  go_roundg (d.size - (k + (k2 + 1)))
                  case measure => omega
                  case rel => exact ⟨kk + 1, k2 + 1, dk.setIfInBounds kk u, by go_num, by go_num, by omega, by omega, Nat.le_refl _, grown_drew (grown_set (grown_set G2.out _ _) _ _), H3.out, H5.out⟩
            · have hend : k + k2 = d.size := by omega
              have hcl : ∀ ty, (Builtin.clear_ #[26] ty #[.slice (some ⟨blk, off + kk * 2, none⟩) (d.size - kk) (cap - kk)]).run Tryz.prog wr = .ok (.tuple #[]) (wr.setCells blk (off + kk * 2) (zl2 (d.size - kk))) := by
                intro ty
                have := clear_sg H2.out kk (by simp; omega) (off + kk * 2) (cap - kk) (by rw [HO.out, Nat.zero_add]) ty
                rw [show dk.toList.length = d.size by simp [hds]] at this
                exact this
              have H3 := H2.out.clear kk (by simp; omega) (zl2 (d.size - kk)) (by rw [zl2_len]; simp [hds])
              have HH3 := Lib.hid H3
              clear H3
              go_wp2
              go_ret
              have hI := I2.out
              rw [hend] at hI
              have hcu : dk.toList.take kk = compactUpTo d d.size := by
                apply List.ext_getElem?
                intro j
                rw [List.getElem?_take]
                by_cases hj : j < kk
                · rw [if_pos hj, hI.low j hj, getElem!_pos dk j (by omega)]; simp [show j < dk.size by omega]
                · rw [if_neg hj, List.getElem?_eq_none (by rw [hI.len]; omega)]
              have H6 := HH3.out
              rw [hcu] at H6
              refine ⟨by rw [hI.len, HO.out]; rfl, zl2 (d.size - kk) ++ R, ?_, ?_, ?_⟩
              · rw [List.length_append, zl2_len, hI.len]; omega
              · rw [HO.out, Nat.zero_add]; exact H6
              · exact grown_sets _ _ _ G2.out
        · have hne : ¬ ((x.k.toNat : Int) = y.k.toNat) ∨ ¬ (x.n = y.n) := by
            by_cases e : (x.k.toNat : Int) = y.k.toNat
            · right; exact fun e2 => hdup (sg_ext (UInt8.toNat_inj.1 (by omega)) e2)
            · left; exact e
          generalize (x.k.toNat : Int) = xk at c1 hne
          generalize (y.k.toNat : Int) = yk at c0 hne
          generalize x.n = xn at c1' hne
          generalize y.n = yn at c0' hne
          have hdup' := Lib.hid hdup
          have HN := Lib.hid hne
          clear hdup hne
          by_cases e1 : xk = yk
          · have e2 : ¬ xn = yn := HN.out.resolve_left (fun h => h e1)
            go_wp2_with fail
            go_region
            go_wp2
            go_roundg (d.size - (k + 1))
            case measure => omega
            case rel => exact ⟨k + 1, by omega, by omega, Nat.le_refl _, by go_num, grown_drew HG.out, HH.out, keeps_up A.out (keeps_pos (by rw [B.out.1, B.out.2]; exact hdup'.out))⟩
          · go_wp2_with fail
            go_region
            go_wp2
            go_roundg (d.size - (k + 1))
            case measure => omega
            case rel => exact ⟨k + 1, by omega, by omega, Nat.le_refl _, by go_num, grown_drew HG.out, HH.out, keeps_up A.out (keeps_pos (by rw [B.out.1, B.out.2]; exact hdup'.out))⟩
      · have hkd : k = d.size := by omega
        subst hkd
        have HH := Lib.hid (HS.out wr hgr hrw hall)
        clear hgr hrw hall
        go_wp2
        go_ret
        obtain ⟨e1, e2⟩ := HH.out
        exact ⟨by rw [e1, HO.out]; rfl, e2⟩
end SgM
end Go.Proofs.YtefknfbmphdafaaGreat
