/- The walk of the reference's Crash. -/
import Derived.Test.YtgkphogefpmeaaaRfI
import Derived.Test.YtgkphogefpmeaaaDkL
namespace Go.Proofs.Ytgkphogefpmeaaa
open Go.RowKit Go.Maps DkM

def crPart (f : Fl) (m : Nat) : Fl := ⟨f.n, f.s ++ f.l.extract 0 m, nul⟩
theorem crO_part (f : Fl) (x : Int) : crO f x = crPart f (clK f.l.size x) := rfl
theorem crPart_cells (f : Fl) (m : Nat) : fC (crPart f m) = #[.string f.n, .string (f.s ++ f.l.extract 0 m), .string ⟨#[]⟩] := rfl
/-- The cells of the file of a round. -/
theorem FsAt.at_ {w wr : World} {lo : Nat} {A : Option Addr} {n cap : Nat} {L : List Fl} (h : FsAt w lo (.slice A n cap) L) (hb : Below w.heap.size w wr) {k : Nat} (hk : k < L.length) :
    ∃ g off, A = some ⟨g, off, none⟩ ∧ g < w.heap.size ∧ ∀ f, f = L[k] → wr.cell? ⟨g, off + k * 3, none⟩ = some (.string f.n) ∧ wr.cell? ⟨g, off + k * 3 + 1, none⟩ = some (.string f.s) ∧ wr.cell? ⟨g, off + k * 3 + 2, none⟩ = some (.string f.l) := by
  obtain ⟨A', c, h1, h2, h3⟩ := h
  obtain ⟨g, off, e, _, hg, hc⟩ := h3 (by omega)
  injection h1 with h1
  refine ⟨g, off, by rw [h1, e], hg, fun f hf => ?_⟩
  subst hf
  obtain ⟨q0, q1, q2⟩ := hc k hk
  exact ⟨(hb.cell (by exact hg)).trans q0, (hb.cell (by exact hg)).trans q1, (hb.cell (by exact hg)).trans q2⟩
theorem ownV2_of {wr V : World} {base : Nat} {T : TypeId} {size n : Nat} {v : Value} {xs : List Value} {a c e : Value} (hV : V.ownsRow base T size v n xs) (hr : wr.ownsRow base T size v n xs) : (((V.setCell ⟨wr.heap.size, 0, none⟩ a).setCell ⟨wr.heap.size, 1, none⟩ c).setCell ⟨wr.heap.size, 2, none⟩ e).drew.ownsRow base T size v n xs := by
  refine ⟨hV.1, ?_⟩
  rcases hV.2 with hn | ⟨g, cap, cur, rfl, hb, hgg, rest⟩
  · exact .inl hn
  · refine .inr ⟨g, cap, cur, rfl, hb, ?_, rest⟩
    have hlt := (hr.lt g rfl).2
    show (((V.setCell ⟨wr.heap.size, 0, none⟩ a).setCell ⟨wr.heap.size, 1, none⟩ c).setCell ⟨wr.heap.size, 2, none⟩ e).heap[g]? = _
    rw [Below.heap_setCell _ _ _ _ (by simp; omega), Below.heap_setCell _ _ _ _ (by simp; omega), Below.heap_setCell _ _ _ _ (by simp; omega)]
    exact hgg
def RcPost (S2 : Dk) (lo : Nat) (w : World) (e : Ending) (w' : World) : Prop := ∃ sl', e = .returned (rfV sl' S2) ∧ FsAt w' lo sl' S2.L ∧ Below w.heap.size w w'
theorem part_end {f : Fl} {x : Int} {t : ByteArray} (h : f.s ++ f.l.extract 0 (clK f.l.size x) = t) : crO f x = ⟨f.n, t, nul⟩ := by rw [← h]; rfl
theorem part_none {f : Fl} {x : Int} (h : 0 = clK f.l.size x) : f.s ++ f.l.extract 0 (clK f.l.size x) = f.s := by
  rw [← h]; exact ba_ext (by rw [app_list, ext_list]; simp)
theorem part_all {f : Fl} {x : Int} (h : f.l.size = clK f.l.size x) : f.s ++ f.l.extract 0 (clK f.l.size x) = f.s ++ f.l := by
  rw [← h, all_of]
theorem part_some {f : Fl} {x : Int} {q : Nat} (h : q = clK f.l.size x) : f.s ++ f.l.extract 0 (clK f.l.size x) = f.s ++ f.l.extract 0 q := by rw [← h]

set_option maxRecDepth 100000 in
set_option maxHeartbeats 1000000 in
theorem rcrash_any {w : World} {lo : Nat} {sl : Value} {S : Dk} (h : RfAt w lo sl S) (hRise : Rise S.L) {ks0 : List Int} {kb : Nat} {K0 : Value} (hK : IntsAt w kb ks0 K0) (hkb : 0 < ks0.length → kb < w.heap.size) (hkw : ∀ x ∈ ks0, -9223372036854775808 ≤ x ∧ x ≤ 9223372036854775807) :
    Calls Try.prog 44 #[rfV sl S, K0] w (RcPost (doCr S ks0) w.heap.size w) := by
  obtain ⟨i0, hi, hz0, hz1, hz2⟩ := info_parts info_file
  obtain ⟨SA, scap, hsl, -, -⟩ := h.fs
  subst hsl
  have hlen := h.len
  have husd := h.usd
  obtain ⟨W, hW, bD, bR, hbW⟩ := dr_boxes w (.slice SA S.L.length scap) S
  have HW := Lib.hid hW
  have BD := Lib.hid bD
  have BR := Lib.hid bR
  have HFS := Lib.hid (h.fs.below hbW)
  have HKW := Lib.hid (hK.keep (w' := W) (fun h0 => hbW.block kb (hkb h0)))
  have hWs : w.heap.size + 1 < W.heap.size := bR.lt
  obtain ⟨KA, kcap, hKv, hkl, hkc⟩ := hK
  subst hKv
  have HST := Lib.hid (CrAt.start (ks0 := ks0) hRise)
  clear bD bR hW h hkl hkc hRise
  replace hkb := Lib.hid (fun h0 => Nat.lt_of_lt_of_le (hkb h0) hbW.size)
  replace hkw := Lib.hid hkw
  go_enter Try.func44, Try.ntmps44
  go_wp2_with fail
  rw [← HW.out]
  go_loopw [1, 5, 6] (fun kv v i wr => ∃ (j m : Nat) (A : List Fl) (ks : List Int), j ≤ S.L.length ∧ m = j ∧ CrAt S.L ks0 j A ks ∧ (∀ x ∈ ks, x ∈ ks0) ∧ ks.length ≤ ks0.length ∧ i = .int .i64 j ∧ IntsAt wr kb ks kv ∧ wr.ownsRow W.heap.size 54 3 v m (fsC A) ∧ Below W.heap.size W wr) (fun _ _ i _ => S.L.length - (intOf i).toNat)
  case atStart => exact ⟨0, 0, [], ks0, Nat.zero_le _, rfl, HST.out, fun _ h => h, Nat.le_refl _, rfl, HKW.out, World.ownsRow_nil _ _ _ _, Below.refl _ _⟩
  case round =>
    obtain ⟨j, m, A, ks, hj, hm, hC, hks, hkl, rfl, hI, hown, hb⟩ := hrel
    obtain ⟨KA, cap, rfl, hkc, hIc⟩ := hI
    have HI := Lib.hid hIc
    have HC := Lib.hid hC
    have HS := Lib.hid hks
    have HM := Lib.hid hm
    have hmj : m ≤ S.L.length := by omega
    have BDr := Lib.hid (BD.out.below' hb)
    clear hIc hC hks hm
    have hwr : w.heap.size + 1 < wr.heap.size := Nat.lt_of_lt_of_le hWs hb.size
    by_cases hlt : j < S.L.length
    · obtain ⟨g, off, e1, hg2, hcc⟩ := HFS.out.at_ hb hlt
      subst e1
      obtain ⟨f, hf⟩ : ∃ f, f = S.L[j] := ⟨_, rfl⟩
      obtain ⟨q0, q1, q2⟩ := hcc f hf
      have hfs : f.s.size + f.l.size ≤ 1073741824 := by
        have := usd_le (show f ∈ S.L by rw [hf]; exact List.getElem_mem _)
        omega
      have HF := Lib.hid hf
      clear hcc hf
      have nj0 : (0 : Int) ≤ (j : Int) := by omega
      have nj1 : (j : Int) < (S.L.length : Int) := by omega
      have hgr : g < wr.heap.size := Nat.lt_of_lt_of_le hg2 hb.size
      obtain ⟨V, hV⟩ : ∃ V, V = wr.alloc (.cells #[.string f.n, .string f.s, .string f.l] 54) := ⟨_, rfl⟩
      have bV : Blk V wr.heap.size 54 (fC f) := by rw [hV]; exact Blk.new _ _ _
      have ownV := hown.alloc (.cells #[.string f.n, .string f.s, .string f.l] 54)
      rw [← hV] at ownV
      have hbV : Below W.heap.size W V := by rw [hV]; exact hb.alloc hb.size _
      have kV : ∀ kb', kb' < wr.heap.size → V.heap[kb']? = wr.heap[kb']? := fun kb' h => by rw [hV]; exact Below.heap_alloc _ _ _ h
      have HV := Lib.hid hV
      have BV := Lib.hid bV
      have ltV : wr.heap.size < V.heap.size := bV.lt
      have KV := Lib.hid kV
      clear hV bV kV
      by_cases hl0 : f.l.size = 0
      · have HN := Lib.hid (HC.out.skip hlt (by rw [← HF.out]; exact hl0))
        have hl0' : (f.l.size : Int) ≤ 0 := by omega
        have HIVh := Lib.hid (show IntsAt V kb ks (.slice KA ks.length cap) from IntsAt.keep (w := wr) ⟨KA, cap, rfl, hkc, HI.out⟩ (fun h0 => KV.out kb (Nat.lt_of_lt_of_le (hkb.out (by omega)) hb.size)))
        have ownW := hown.alloc (.cells #[.string f.n, .string f.s, .string f.l] 54)
        have hbVW : Below W.heap.size W (wr.alloc (.cells #[.string f.n, .string f.s, .string f.l] 54)) := hb.alloc hb.size _
        clear hl0 hkc
        have d0 : wr.cell? ⟨w.heap.size, 0, none⟩ = some ((.slice (some ⟨g, off, none⟩) S.L.length scap)) := BDr.out.cell 0
        go_wp2_with (at_builtin; refine wpList_append_own _ rfl (.tmp 53) (.tmp 55) 28 rfl W.heap.size 54 i0 (.agg #[.string ⟨#[]⟩, .string ⟨#[]⟩, .string ⟨#[]⟩]) 3 48 Try.underlying28 hi hz0 hz1 hz2 rfl (by decide) _ _ _ rfl (ownW.alloc _) ⟨wr.heap.size + 1, 0, none⟩ 1 1 [.string f.n, .string f.s, .string f.l] rfl rfl (new_three (wr.alloc _) _ _ _ _ _ (by simp)) (one_three _ _ _) (by unfold maxLen; omega) (by omega) (by have := hb.size; simp; omega) ?_; intro v' w5 own5 hgrow _; have hb5 := below_grown (w := W) hbVW ownW hgrow; clear hgrow)
        go_roundw
        case rel => exact ⟨j + 1, m + 1, A ++ [S.L[j]], ks, by omega, by rw [HM.out], HN.out, HS.out, hkl, by go_num, HIVh.out.keep (fun h0 => (hb5.block kb (hkb.out (by omega))).trans (hbV.block kb (hkb.out (by omega))).symm), by rw [← HF.out, fsC_snoc]; exact own5, hb5⟩
        case measure => simp [intOf]; omega
      · have hl1 : (0 : Int) < (f.l.size : Int) := by omega
        have HNX := Lib.hid (show ∀ x, ks.headD 0 = x → CrAt S.L ks0 (j + 1) (A ++ [crO f x]) ks.tail from fun x hx => by
          have := (HC.out.next hlt (by rw [← HF.out]; exact hl0)).1
          rw [← HF.out, hx] at this
          exact this)
        clear hl0
        cases ks with
        | nil =>
          have HMM := Lib.hid (show 0 = clK f.l.size 0 by unfold clK; simp)
          have hb00 : (0 : Int) ≤ 0 := by omega
          have hb01 : (0 : Int) ≤ (f.l.size : Int) := by omega
          have d0 : wr.cell? ⟨w.heap.size, 0, none⟩ = some ((.slice (some ⟨g, off, none⟩) S.L.length scap)) := BDr.out.cell 0
          go_wp2_with fail
          rw [← HV.out]
          have v0 : V.cell? ⟨wr.heap.size, 0, none⟩ = some (.string f.n) := BV.out.cell 0
          have v1 : V.cell? ⟨wr.heap.size, 1, none⟩ = some (.string f.s) := BV.out.cell 1
          have v2 : V.cell? ⟨wr.heap.size, 2, none⟩ = some (.string f.l) := BV.out.cell 2
          have fv0 := BV.out.frozen 0
          have fv1 := BV.out.frozen 1
          have fv2 := BV.out.frozen 2
          go_wp2_with fail
          go_region
          obtain ⟨V2, hV2⟩ : ∃ V2, V2 = (((V.setCell ⟨wr.heap.size, 0, none⟩ (.string f.n)).setCell ⟨wr.heap.size, 1, none⟩ (.string (f.s))).setCell ⟨wr.heap.size, 2, none⟩ (.string ⟨#[]⟩)).drew := ⟨_, rfl⟩
          have bV2 : Blk V2 wr.heap.size 54 #[.string f.n, .string (f.s), .string ⟨#[]⟩] := by rw [hV2]; exact (((BV.out.set_ 0 _).set_ 1 _).set_ 2 _).drew
          have ownV2 := ownV2_of (a := .string f.n) (c := .string (f.s)) (e := .string ⟨#[]⟩) ownV hown
          rw [← hV2] at ownV2
          have hbV2 : Below W.heap.size W V2 := by rw [hV2]; exact below_drew2 (((hbV.setCell hb.size _).setCell hb.size _).setCell hb.size _)
          rw [← hV2]
          have HV2 := Lib.hid hV2
          have BV2 := Lib.hid bV2
          have ltV2 : wr.heap.size < V2.heap.size := bV2.lt
          clear hV2 bV2 v0 v1 v2 fv0 fv1 fv2
          have u0 : V2.cell? ⟨wr.heap.size, 0, none⟩ = some (.string f.n) := BV2.out.cell 0
          have u1 : V2.cell? ⟨wr.heap.size, 1, none⟩ = some (.string (f.s)) := BV2.out.cell 1
          have u2 : V2.cell? ⟨wr.heap.size, 2, none⟩ = some (.string ⟨#[]⟩) := BV2.out.cell 2
          go_wp2_with (at_builtin; refine wpList_append_own _ rfl (.tmp 53) (.tmp 55) 28 rfl W.heap.size 54 i0 (.agg #[.string ⟨#[]⟩, .string ⟨#[]⟩, .string ⟨#[]⟩]) 3 48 Try.underlying28 hi hz0 hz1 hz2 rfl (by decide) _ _ _ rfl (ownV2.alloc _) ⟨V2.heap.size, 0, none⟩ 1 1 [.string f.n, .string (f.s), .string ⟨#[]⟩] rfl rfl (new_three V2 _ _ _ _ _ (by simp)) (one_three _ _ _) (by unfold maxLen; omega) (by omega) (by have := hbV2.size; simp; omega) ?_; intro v' w5 own5 hgrow _; have hb5 := below_grown (w := W) hbV2 ownV2 hgrow; clear hgrow)
          go_roundw
          case rel => exact ⟨j + 1, m + 1, A ++ [crO f 0], [], by omega, by rw [HM.out], HNX.out _ rfl, fun y hy => HS.out y (by simp [hy]), Nat.zero_le _, by go_num, IntsAt.none_ _ _ _ _, by rw [part_end (part_none HMM.out), fsC_snoc]; exact own5, hb5⟩
          case measure => simp [intOf]; omega
        | cons x ks =>
          obtain ⟨ko, rfl, hx⟩ := HI.out (by simp)
          have hx0 := hx 0 (by simp)
          simp only [List.getElem_cons_zero, Nat.add_zero] at hx0
          have hkx := hkw.out x (HS.out x (by simp))
          have hk0 := hkx.1
          have hk1 := hkx.2
          have HX := Lib.hid hx
          have hkb0 := hkb.out (by simp at hkl; omega)
          have hkr : kb < wr.heap.size := Nat.lt_of_lt_of_le hkb0 hb.size
          have hc1 : ks.length + 1 ≤ cap := by simpa using hkc
          have hi1 : (1 : Int) ≤ (ks.length : Int) + 1 := by omega
          have hi2 : (ks.length : Int) + 1 ≤ (cap : Int) := by omega
          have hi3 : (1 : Int) ≤ (cap : Int) := by omega
          have hin0 : (0 : Int) < (ks.length : Int) + 1 := by omega
          have HC1 := Lib.hid (show (x :: ks).length ≤ cap from hkc)
          have hx0V : V.cell? ⟨kb, ko, none⟩ = some (.int .i64 x) := (World.cell?_of_block (w := wr) (KV.out kb hkr)).trans hx0
          clear hx hkx hkc
          by_cases hxn : x < 0
          · have HMM := Lib.hid (show 0 = clK f.l.size x by unfold clK; omega)
            have hb00 : (0 : Int) ≤ 0 := by omega
            have hb01 : (0 : Int) ≤ (f.l.size : Int) := by omega
            by_cases hcap : cap = 1
            · obtain rfl := hcap
              have hksn : ks = [] := List.eq_nil_of_length_eq_zero (by omega)
              subst hksn
              have d0 : wr.cell? ⟨w.heap.size, 0, none⟩ = some ((.slice (some ⟨g, off, none⟩) S.L.length scap)) := BDr.out.cell 0
              go_wp2_with fail
              rw [← HV.out]
              have v0 : V.cell? ⟨wr.heap.size, 0, none⟩ = some (.string f.n) := BV.out.cell 0
              have v1 : V.cell? ⟨wr.heap.size, 1, none⟩ = some (.string f.s) := BV.out.cell 1
              have v2 : V.cell? ⟨wr.heap.size, 2, none⟩ = some (.string f.l) := BV.out.cell 2
              have fv0 := BV.out.frozen 0
              have fv1 := BV.out.frozen 1
              have fv2 := BV.out.frozen 2
              go_wp2_with fail
              go_region
              obtain ⟨V2, hV2⟩ : ∃ V2, V2 = (((V.setCell ⟨wr.heap.size, 0, none⟩ (.string f.n)).setCell ⟨wr.heap.size, 1, none⟩ (.string (f.s))).setCell ⟨wr.heap.size, 2, none⟩ (.string ⟨#[]⟩)).drew := ⟨_, rfl⟩
              have bV2 : Blk V2 wr.heap.size 54 #[.string f.n, .string (f.s), .string ⟨#[]⟩] := by rw [hV2]; exact (((BV.out.set_ 0 _).set_ 1 _).set_ 2 _).drew
              have ownV2 := ownV2_of (a := .string f.n) (c := .string (f.s)) (e := .string ⟨#[]⟩) ownV hown
              rw [← hV2] at ownV2
              have hbV2 : Below W.heap.size W V2 := by rw [hV2]; exact below_drew2 (((hbV.setCell hb.size _).setCell hb.size _).setCell hb.size _)
              rw [← hV2]
              have HV2 := Lib.hid hV2
              have BV2 := Lib.hid bV2
              have ltV2 : wr.heap.size < V2.heap.size := bV2.lt
              clear hV2 bV2 v0 v1 v2 fv0 fv1 fv2
              have u0 : V2.cell? ⟨wr.heap.size, 0, none⟩ = some (.string f.n) := BV2.out.cell 0
              have u1 : V2.cell? ⟨wr.heap.size, 1, none⟩ = some (.string (f.s)) := BV2.out.cell 1
              have u2 : V2.cell? ⟨wr.heap.size, 2, none⟩ = some (.string ⟨#[]⟩) := BV2.out.cell 2
              go_wp2_with (at_builtin; refine wpList_append_own _ rfl (.tmp 53) (.tmp 55) 28 rfl W.heap.size 54 i0 (.agg #[.string ⟨#[]⟩, .string ⟨#[]⟩, .string ⟨#[]⟩]) 3 48 Try.underlying28 hi hz0 hz1 hz2 rfl (by decide) _ _ _ rfl (ownV2.alloc _) ⟨V2.heap.size, 0, none⟩ 1 1 [.string f.n, .string (f.s), .string ⟨#[]⟩] rfl rfl (new_three V2 _ _ _ _ _ (by simp)) (one_three _ _ _) (by unfold maxLen; omega) (by omega) (by have := hbV2.size; simp; omega) ?_; intro v' w5 own5 hgrow _; have hb5 := below_grown (w := W) hbV2 ownV2 hgrow; clear hgrow)
              go_roundw
              case rel => exact ⟨j + 1, m + 1, A ++ [crO f x], [], by omega, by rw [HM.out], HNX.out _ rfl, fun y hy => HS.out y (by simp [hy]), Nat.zero_le _, by go_num, IntsAt.none_ _ _ _ _, by rw [part_end (part_none HMM.out), fsC_snoc]; exact own5, hb5⟩
              case measure => simp [intOf]; omega
            · have hcap2 : 1 < cap := by omega
              clear hcap
              have HIV := Lib.hid (show IntsAt V kb ks (.slice (some ⟨kb, ko + 1, none⟩) ks.length (cap - 1)) from IntsAt.keep (w := wr) (IntsAt.tail HC1.out HX.out _ (fun _ => rfl)) (fun _ => KV.out kb hkr))
              have d0 : wr.cell? ⟨w.heap.size, 0, none⟩ = some ((.slice (some ⟨g, off, none⟩) S.L.length scap)) := BDr.out.cell 0
              go_wp2_with fail
              rw [← HV.out]
              have v0 : V.cell? ⟨wr.heap.size, 0, none⟩ = some (.string f.n) := BV.out.cell 0
              have v1 : V.cell? ⟨wr.heap.size, 1, none⟩ = some (.string f.s) := BV.out.cell 1
              have v2 : V.cell? ⟨wr.heap.size, 2, none⟩ = some (.string f.l) := BV.out.cell 2
              have fv0 := BV.out.frozen 0
              have fv1 := BV.out.frozen 1
              have fv2 := BV.out.frozen 2
              go_wp2_with fail
              go_region
              obtain ⟨V2, hV2⟩ : ∃ V2, V2 = (((V.setCell ⟨wr.heap.size, 0, none⟩ (.string f.n)).setCell ⟨wr.heap.size, 1, none⟩ (.string (f.s))).setCell ⟨wr.heap.size, 2, none⟩ (.string ⟨#[]⟩)).drew := ⟨_, rfl⟩
              have bV2 : Blk V2 wr.heap.size 54 #[.string f.n, .string (f.s), .string ⟨#[]⟩] := by rw [hV2]; exact (((BV.out.set_ 0 _).set_ 1 _).set_ 2 _).drew
              have ownV2 := ownV2_of (a := .string f.n) (c := .string (f.s)) (e := .string ⟨#[]⟩) ownV hown
              rw [← hV2] at ownV2
              have hbV2 : Below W.heap.size W V2 := by rw [hV2]; exact below_drew2 (((hbV.setCell hb.size _).setCell hb.size _).setCell hb.size _)
              rw [← hV2]
              have HV2 := Lib.hid hV2
              have BV2 := Lib.hid bV2
              have ltV2 : wr.heap.size < V2.heap.size := bV2.lt
              clear hV2 bV2 v0 v1 v2 fv0 fv1 fv2
              have u0 : V2.cell? ⟨wr.heap.size, 0, none⟩ = some (.string f.n) := BV2.out.cell 0
              have u1 : V2.cell? ⟨wr.heap.size, 1, none⟩ = some (.string (f.s)) := BV2.out.cell 1
              have u2 : V2.cell? ⟨wr.heap.size, 2, none⟩ = some (.string ⟨#[]⟩) := BV2.out.cell 2
              go_wp2_with (at_builtin; refine wpList_append_own _ rfl (.tmp 53) (.tmp 55) 28 rfl W.heap.size 54 i0 (.agg #[.string ⟨#[]⟩, .string ⟨#[]⟩, .string ⟨#[]⟩]) 3 48 Try.underlying28 hi hz0 hz1 hz2 rfl (by decide) _ _ _ rfl (ownV2.alloc _) ⟨V2.heap.size, 0, none⟩ 1 1 [.string f.n, .string (f.s), .string ⟨#[]⟩] rfl rfl (new_three V2 _ _ _ _ _ (by simp)) (one_three _ _ _) (by unfold maxLen; omega) (by omega) (by have := hbV2.size; simp; omega) ?_; intro v' w5 own5 hgrow _; have hb5 := below_grown (w := W) hbV2 ownV2 hgrow; clear hgrow)
              go_roundw
              case rel => exact ⟨j + 1, m + 1, A ++ [crO f x], ks, by omega, by rw [HM.out], HNX.out _ rfl, fun y hy => HS.out y (by simp [hy]), (by simp at hkl; omega), by go_num, IntsAt.keep (w := wr) (IntsAt.tail HC1.out HX.out _ (fun _ => rfl)) (fun _ => (hb5.block kb hkb0).trans (hb.block kb hkb0).symm), by rw [part_end (part_none HMM.out), fsC_snoc]; exact own5, hb5⟩
              case measure => simp [intOf]; omega
          · have hxp : 0 ≤ x := by omega
            clear hxn
            by_cases hxl : (f.l.size : Int) < x
            · have HMM := Lib.hid (show f.l.size = clK f.l.size x by unfold clK; omega)
              have hb00 : (0 : Int) ≤ (f.l.size : Int) := by omega
              by_cases hcap : cap = 1
              · obtain rfl := hcap
                have hksn : ks = [] := List.eq_nil_of_length_eq_zero (by omega)
                subst hksn
                have d0 : wr.cell? ⟨w.heap.size, 0, none⟩ = some ((.slice (some ⟨g, off, none⟩) S.L.length scap)) := BDr.out.cell 0
                go_wp2_with fail
                rw [← HV.out]
                have v0 : V.cell? ⟨wr.heap.size, 0, none⟩ = some (.string f.n) := BV.out.cell 0
                have v1 : V.cell? ⟨wr.heap.size, 1, none⟩ = some (.string f.s) := BV.out.cell 1
                have v2 : V.cell? ⟨wr.heap.size, 2, none⟩ = some (.string f.l) := BV.out.cell 2
                have fv0 := BV.out.frozen 0
                have fv1 := BV.out.frozen 1
                have fv2 := BV.out.frozen 2
                go_wp2_with fail
                go_region
                obtain ⟨V2, hV2⟩ : ∃ V2, V2 = (((V.setCell ⟨wr.heap.size, 0, none⟩ (.string f.n)).setCell ⟨wr.heap.size, 1, none⟩ (.string (f.s ++ f.l))).setCell ⟨wr.heap.size, 2, none⟩ (.string ⟨#[]⟩)).drew := ⟨_, rfl⟩
                have bV2 : Blk V2 wr.heap.size 54 #[.string f.n, .string (f.s ++ f.l), .string ⟨#[]⟩] := by rw [hV2]; exact (((BV.out.set_ 0 _).set_ 1 _).set_ 2 _).drew
                have ownV2 := ownV2_of (a := .string f.n) (c := .string (f.s ++ f.l)) (e := .string ⟨#[]⟩) ownV hown
                rw [← hV2] at ownV2
                have hbV2 : Below W.heap.size W V2 := by rw [hV2]; exact below_drew2 (((hbV.setCell hb.size _).setCell hb.size _).setCell hb.size _)
                rw [← hV2]
                have HV2 := Lib.hid hV2
                have BV2 := Lib.hid bV2
                have ltV2 : wr.heap.size < V2.heap.size := bV2.lt
                clear hV2 bV2 v0 v1 v2 fv0 fv1 fv2
                have u0 : V2.cell? ⟨wr.heap.size, 0, none⟩ = some (.string f.n) := BV2.out.cell 0
                have u1 : V2.cell? ⟨wr.heap.size, 1, none⟩ = some (.string (f.s ++ f.l)) := BV2.out.cell 1
                have u2 : V2.cell? ⟨wr.heap.size, 2, none⟩ = some (.string ⟨#[]⟩) := BV2.out.cell 2
                go_wp2_with (at_builtin; refine wpList_append_own _ rfl (.tmp 53) (.tmp 55) 28 rfl W.heap.size 54 i0 (.agg #[.string ⟨#[]⟩, .string ⟨#[]⟩, .string ⟨#[]⟩]) 3 48 Try.underlying28 hi hz0 hz1 hz2 rfl (by decide) _ _ _ rfl (ownV2.alloc _) ⟨V2.heap.size, 0, none⟩ 1 1 [.string f.n, .string (f.s ++ f.l), .string ⟨#[]⟩] rfl rfl (new_three V2 _ _ _ _ _ (by simp)) (one_three _ _ _) (by unfold maxLen; omega) (by omega) (by have := hbV2.size; simp; omega) ?_; intro v' w5 own5 hgrow _; have hb5 := below_grown (w := W) hbV2 ownV2 hgrow; clear hgrow)
                go_roundw
                case rel => exact ⟨j + 1, m + 1, A ++ [crO f x], [], by omega, by rw [HM.out], HNX.out _ rfl, fun y hy => HS.out y (by simp [hy]), Nat.zero_le _, by go_num, IntsAt.none_ _ _ _ _, by rw [part_end (part_all HMM.out), fsC_snoc]; exact own5, hb5⟩
                case measure => simp [intOf]; omega
              · have hcap2 : 1 < cap := by omega
                clear hcap
                have HIV := Lib.hid (show IntsAt V kb ks (.slice (some ⟨kb, ko + 1, none⟩) ks.length (cap - 1)) from IntsAt.keep (w := wr) (IntsAt.tail HC1.out HX.out _ (fun _ => rfl)) (fun _ => KV.out kb hkr))
                have d0 : wr.cell? ⟨w.heap.size, 0, none⟩ = some ((.slice (some ⟨g, off, none⟩) S.L.length scap)) := BDr.out.cell 0
                go_wp2_with fail
                rw [← HV.out]
                have v0 : V.cell? ⟨wr.heap.size, 0, none⟩ = some (.string f.n) := BV.out.cell 0
                have v1 : V.cell? ⟨wr.heap.size, 1, none⟩ = some (.string f.s) := BV.out.cell 1
                have v2 : V.cell? ⟨wr.heap.size, 2, none⟩ = some (.string f.l) := BV.out.cell 2
                have fv0 := BV.out.frozen 0
                have fv1 := BV.out.frozen 1
                have fv2 := BV.out.frozen 2
                go_wp2_with fail
                go_region
                obtain ⟨V2, hV2⟩ : ∃ V2, V2 = (((V.setCell ⟨wr.heap.size, 0, none⟩ (.string f.n)).setCell ⟨wr.heap.size, 1, none⟩ (.string (f.s ++ f.l))).setCell ⟨wr.heap.size, 2, none⟩ (.string ⟨#[]⟩)).drew := ⟨_, rfl⟩
                have bV2 : Blk V2 wr.heap.size 54 #[.string f.n, .string (f.s ++ f.l), .string ⟨#[]⟩] := by rw [hV2]; exact (((BV.out.set_ 0 _).set_ 1 _).set_ 2 _).drew
                have ownV2 := ownV2_of (a := .string f.n) (c := .string (f.s ++ f.l)) (e := .string ⟨#[]⟩) ownV hown
                rw [← hV2] at ownV2
                have hbV2 : Below W.heap.size W V2 := by rw [hV2]; exact below_drew2 (((hbV.setCell hb.size _).setCell hb.size _).setCell hb.size _)
                rw [← hV2]
                have HV2 := Lib.hid hV2
                have BV2 := Lib.hid bV2
                have ltV2 : wr.heap.size < V2.heap.size := bV2.lt
                clear hV2 bV2 v0 v1 v2 fv0 fv1 fv2
                have u0 : V2.cell? ⟨wr.heap.size, 0, none⟩ = some (.string f.n) := BV2.out.cell 0
                have u1 : V2.cell? ⟨wr.heap.size, 1, none⟩ = some (.string (f.s ++ f.l)) := BV2.out.cell 1
                have u2 : V2.cell? ⟨wr.heap.size, 2, none⟩ = some (.string ⟨#[]⟩) := BV2.out.cell 2
                go_wp2_with (at_builtin; refine wpList_append_own _ rfl (.tmp 53) (.tmp 55) 28 rfl W.heap.size 54 i0 (.agg #[.string ⟨#[]⟩, .string ⟨#[]⟩, .string ⟨#[]⟩]) 3 48 Try.underlying28 hi hz0 hz1 hz2 rfl (by decide) _ _ _ rfl (ownV2.alloc _) ⟨V2.heap.size, 0, none⟩ 1 1 [.string f.n, .string (f.s ++ f.l), .string ⟨#[]⟩] rfl rfl (new_three V2 _ _ _ _ _ (by simp)) (one_three _ _ _) (by unfold maxLen; omega) (by omega) (by have := hbV2.size; simp; omega) ?_; intro v' w5 own5 hgrow _; have hb5 := below_grown (w := W) hbV2 ownV2 hgrow; clear hgrow)
                go_roundw
                case rel => exact ⟨j + 1, m + 1, A ++ [crO f x], ks, by omega, by rw [HM.out], HNX.out _ rfl, fun y hy => HS.out y (by simp [hy]), (by simp at hkl; omega), by go_num, IntsAt.keep (w := wr) (IntsAt.tail HC1.out HX.out _ (fun _ => rfl)) (fun _ => (hb5.block kb hkb0).trans (hb.block kb hkb0).symm), by rw [part_end (part_all HMM.out), fsC_snoc]; exact own5, hb5⟩
                case measure => simp [intOf]; omega
            · obtain ⟨q, rfl⟩ : ∃ q : Nat, x = q := ⟨x.toNat, by omega⟩
              have hxl2 : (q : Int) ≤ (f.l.size : Int) := by omega
              clear hxl
              have HMM := Lib.hid (show q = clK f.l.size (q : Int) by unfold clK; omega)
              by_cases hcap : cap = 1
              · obtain rfl := hcap
                have hksn : ks = [] := List.eq_nil_of_length_eq_zero (by omega)
                subst hksn
                have d0 : wr.cell? ⟨w.heap.size, 0, none⟩ = some ((.slice (some ⟨g, off, none⟩) S.L.length scap)) := BDr.out.cell 0
                go_wp2_with fail
                rw [← HV.out]
                have v0 : V.cell? ⟨wr.heap.size, 0, none⟩ = some (.string f.n) := BV.out.cell 0
                have v1 : V.cell? ⟨wr.heap.size, 1, none⟩ = some (.string f.s) := BV.out.cell 1
                have v2 : V.cell? ⟨wr.heap.size, 2, none⟩ = some (.string f.l) := BV.out.cell 2
                have fv0 := BV.out.frozen 0
                have fv1 := BV.out.frozen 1
                have fv2 := BV.out.frozen 2
                go_wp2_with fail
                go_region
                obtain ⟨V2, hV2⟩ : ∃ V2, V2 = (((V.setCell ⟨wr.heap.size, 0, none⟩ (.string f.n)).setCell ⟨wr.heap.size, 1, none⟩ (.string (f.s ++ f.l.extract 0 q))).setCell ⟨wr.heap.size, 2, none⟩ (.string ⟨#[]⟩)).drew := ⟨_, rfl⟩
                have bV2 : Blk V2 wr.heap.size 54 #[.string f.n, .string (f.s ++ f.l.extract 0 q), .string ⟨#[]⟩] := by rw [hV2]; exact (((BV.out.set_ 0 _).set_ 1 _).set_ 2 _).drew
                have ownV2 := ownV2_of (a := .string f.n) (c := .string (f.s ++ f.l.extract 0 q)) (e := .string ⟨#[]⟩) ownV hown
                rw [← hV2] at ownV2
                have hbV2 : Below W.heap.size W V2 := by rw [hV2]; exact below_drew2 (((hbV.setCell hb.size _).setCell hb.size _).setCell hb.size _)
                rw [← hV2]
                have HV2 := Lib.hid hV2
                have BV2 := Lib.hid bV2
                have ltV2 : wr.heap.size < V2.heap.size := bV2.lt
                clear hV2 bV2 v0 v1 v2 fv0 fv1 fv2
                have u0 : V2.cell? ⟨wr.heap.size, 0, none⟩ = some (.string f.n) := BV2.out.cell 0
                have u1 : V2.cell? ⟨wr.heap.size, 1, none⟩ = some (.string (f.s ++ f.l.extract 0 q)) := BV2.out.cell 1
                have u2 : V2.cell? ⟨wr.heap.size, 2, none⟩ = some (.string ⟨#[]⟩) := BV2.out.cell 2
                go_wp2_with (at_builtin; refine wpList_append_own _ rfl (.tmp 53) (.tmp 55) 28 rfl W.heap.size 54 i0 (.agg #[.string ⟨#[]⟩, .string ⟨#[]⟩, .string ⟨#[]⟩]) 3 48 Try.underlying28 hi hz0 hz1 hz2 rfl (by decide) _ _ _ rfl (ownV2.alloc _) ⟨V2.heap.size, 0, none⟩ 1 1 [.string f.n, .string (f.s ++ f.l.extract 0 q), .string ⟨#[]⟩] rfl rfl (new_three V2 _ _ _ _ _ (by simp)) (one_three _ _ _) (by unfold maxLen; omega) (by omega) (by have := hbV2.size; simp; omega) ?_; intro v' w5 own5 hgrow _; have hb5 := below_grown (w := W) hbV2 ownV2 hgrow; clear hgrow)
                go_roundw
                case rel => exact ⟨j + 1, m + 1, A ++ [crO f (q : Int)], [], by omega, by rw [HM.out], HNX.out _ rfl, fun y hy => HS.out y (by simp [hy]), Nat.zero_le _, by go_num, IntsAt.none_ _ _ _ _, by rw [part_end (part_some HMM.out), fsC_snoc]; exact own5, hb5⟩
                case measure => simp [intOf]; omega
              · have hcap2 : 1 < cap := by omega
                clear hcap
                have HIV := Lib.hid (show IntsAt V kb ks (.slice (some ⟨kb, ko + 1, none⟩) ks.length (cap - 1)) from IntsAt.keep (w := wr) (IntsAt.tail HC1.out HX.out _ (fun _ => rfl)) (fun _ => KV.out kb hkr))
                have d0 : wr.cell? ⟨w.heap.size, 0, none⟩ = some ((.slice (some ⟨g, off, none⟩) S.L.length scap)) := BDr.out.cell 0
                go_wp2_with fail
                rw [← HV.out]
                have v0 : V.cell? ⟨wr.heap.size, 0, none⟩ = some (.string f.n) := BV.out.cell 0
                have v1 : V.cell? ⟨wr.heap.size, 1, none⟩ = some (.string f.s) := BV.out.cell 1
                have v2 : V.cell? ⟨wr.heap.size, 2, none⟩ = some (.string f.l) := BV.out.cell 2
                have fv0 := BV.out.frozen 0
                have fv1 := BV.out.frozen 1
                have fv2 := BV.out.frozen 2
                go_wp2_with fail
                go_region
                obtain ⟨V2, hV2⟩ : ∃ V2, V2 = (((V.setCell ⟨wr.heap.size, 0, none⟩ (.string f.n)).setCell ⟨wr.heap.size, 1, none⟩ (.string (f.s ++ f.l.extract 0 q))).setCell ⟨wr.heap.size, 2, none⟩ (.string ⟨#[]⟩)).drew := ⟨_, rfl⟩
                have bV2 : Blk V2 wr.heap.size 54 #[.string f.n, .string (f.s ++ f.l.extract 0 q), .string ⟨#[]⟩] := by rw [hV2]; exact (((BV.out.set_ 0 _).set_ 1 _).set_ 2 _).drew
                have ownV2 := ownV2_of (a := .string f.n) (c := .string (f.s ++ f.l.extract 0 q)) (e := .string ⟨#[]⟩) ownV hown
                rw [← hV2] at ownV2
                have hbV2 : Below W.heap.size W V2 := by rw [hV2]; exact below_drew2 (((hbV.setCell hb.size _).setCell hb.size _).setCell hb.size _)
                rw [← hV2]
                have HV2 := Lib.hid hV2
                have BV2 := Lib.hid bV2
                have ltV2 : wr.heap.size < V2.heap.size := bV2.lt
                clear hV2 bV2 v0 v1 v2 fv0 fv1 fv2
                have u0 : V2.cell? ⟨wr.heap.size, 0, none⟩ = some (.string f.n) := BV2.out.cell 0
                have u1 : V2.cell? ⟨wr.heap.size, 1, none⟩ = some (.string (f.s ++ f.l.extract 0 q)) := BV2.out.cell 1
                have u2 : V2.cell? ⟨wr.heap.size, 2, none⟩ = some (.string ⟨#[]⟩) := BV2.out.cell 2
                go_wp2_with (at_builtin; refine wpList_append_own _ rfl (.tmp 53) (.tmp 55) 28 rfl W.heap.size 54 i0 (.agg #[.string ⟨#[]⟩, .string ⟨#[]⟩, .string ⟨#[]⟩]) 3 48 Try.underlying28 hi hz0 hz1 hz2 rfl (by decide) _ _ _ rfl (ownV2.alloc _) ⟨V2.heap.size, 0, none⟩ 1 1 [.string f.n, .string (f.s ++ f.l.extract 0 q), .string ⟨#[]⟩] rfl rfl (new_three V2 _ _ _ _ _ (by simp)) (one_three _ _ _) (by unfold maxLen; omega) (by omega) (by have := hbV2.size; simp; omega) ?_; intro v' w5 own5 hgrow _; have hb5 := below_grown (w := W) hbV2 ownV2 hgrow; clear hgrow)
                go_roundw
                case rel => exact ⟨j + 1, m + 1, A ++ [crO f (q : Int)], ks, by omega, by rw [HM.out], HNX.out _ rfl, fun y hy => HS.out y (by simp [hy]), (by simp at hkl; omega), by go_num, IntsAt.keep (w := wr) (IntsAt.tail HC1.out HX.out _ (fun _ => rfl)) (fun _ => (hb5.block kb hkb0).trans (hb.block kb hkb0).symm), by rw [part_end (part_some HMM.out), fsC_snoc]; exact own5, hb5⟩
                case measure => simp [intOf]; omega
    · have hje : j = S.L.length := by omega
      have HDn := Lib.hid (show doCr S ks0 = { S with L := A, used := (usd A : Nat), down := false, fuse := -1 } by
        have := HC.out.done hje
        rw [hje, List.drop_length, List.append_nil] at this
        unfold doCr; rw [← this])
      have HLn := Lib.hid (show m = A.length by rw [HM.out]; exact HC.out.len.symm)
      rw [HLn.out] at hown
      have HF := Lib.hid (FsAt.own hown (lo := w.heap.size + 1 + 1) (by omega))
      obtain ⟨VA, vcap, hv, -, -⟩ := HF.out
      subst hv
      have BRr := Lib.hid (BR.out.below' hb)
      have hbw := hbW.trans (hb.mono hbW.size)
      clear hown hje
      have d0 : wr.cell? ⟨w.heap.size, 0, none⟩ = some ((.slice SA S.L.length scap)) := BDr.out.cell 0
      have d1 : wr.cell? ⟨w.heap.size, 1, none⟩ = some (.int .i64 S.lim) := BDr.out.cell 1
      have d2 : wr.cell? ⟨w.heap.size, 2, none⟩ = some (.int .i64 S.fuse) := BDr.out.cell 2
      have d3 : wr.cell? ⟨w.heap.size, 3, none⟩ = some (.int .i64 S.ops) := BDr.out.cell 3
      have d4 : wr.cell? ⟨w.heap.size, 4, none⟩ = some (.int .i64 S.reads) := BDr.out.cell 4
      have d5 : wr.cell? ⟨w.heap.size, 5, none⟩ = some (.bool S.down) := BDr.out.cell 5
      have fd0 := BDr.out.frozen 0
      have fd2 := BDr.out.frozen 2
      have fd5 := BDr.out.frozen 5
      have r0 : wr.cell? ⟨w.heap.size + 1, 0, none⟩ = some (.slice none 0 0) := BRr.out.cell 0
      have r1 : wr.cell? ⟨w.heap.size + 1, 1, none⟩ = some (.int .i64 0) := BRr.out.cell 1
      have r2 : wr.cell? ⟨w.heap.size + 1, 2, none⟩ = some (.int .i64 0) := BRr.out.cell 2
      have r3 : wr.cell? ⟨w.heap.size + 1, 3, none⟩ = some (.int .i64 0) := BRr.out.cell 3
      have r4 : wr.cell? ⟨w.heap.size + 1, 4, none⟩ = some (.int .i64 0) := BRr.out.cell 4
      have r5 : wr.cell? ⟨w.heap.size + 1, 5, none⟩ = some (.bool false) := BRr.out.cell 5
      have fr0 := BRr.out.frozen 0
      have fr1 := BRr.out.frozen 1
      have fr2 := BRr.out.frozen 2
      have fr3 := BRr.out.frozen 3
      have fr4 := BRr.out.frozen 4
      have fr5 := BRr.out.frozen 5
      go_wp2_with fail
      refine bodyPost_ret (results_row1 (p := 4) rfl _ _ _ _ _ _ _ rfl (six_set (((BRr.out.far (by simp) _).far (by simp) _).far (by simp) _) (.slice VA A.length vcap) { S with down := false, fuse := -1 } rfl) Try.underlying30 rfl info_disk) rfl ?_
      rw [HDn.out]
      exact ⟨_, rfl, ((((HF.out.one (by omega) _ _).one (by omega) _ _).one (by omega) _ _).six (by omega) _ _ _ _ _ _).mono (by omega), six_below (((hbw.setCell (by simp) _).setCell (by simp) _).setCell (by simp) _) (by omega) _ _ _ _ _ _⟩
end Go.Proofs.Ytgkphogefpmeaaa
