/- The layout of files: the walk. -/
import Derived.Test.YtefknfbmphdafaaGreatSgF
import Derived.Test.YtefknfbmphdafaaGreatF4
namespace Go.Proofs.YtefknfbmphdafaaGreat
namespace SgM
open Go Go.RowKit CrcM FrM
open Ds (Blk)

/-- A slice of texts. -/
def StrsAt (w : World) (v : Value) (F : List ByteArray) : Prop :=
  ∃ A cap, v = .slice A F.length cap ∧ (F ≠ [] → ∃ g off, A = some ⟨g, off, none⟩ ∧ g < w.heap.size ∧ ∀ k (h : k < F.length), w.cell? ⟨g, off + k, none⟩ = some (.string F[k]))
theorem StrsAt.below {w w' : World} {v : Value} {F : List ByteArray} (h : StrsAt w v F) (hb : Below w.heap.size w w') : StrsAt w' v F := by
  obtain ⟨A, cap, h1, h2⟩ := h
  refine ⟨A, cap, h1, fun hne => ?_⟩
  obtain ⟨g, off, e, hg, hc⟩ := h2 hne
  exact ⟨g, off, e, Nat.lt_of_lt_of_le hg hb.size, fun k hk => (hb.cell (by exact hg)).trans (hc k hk)⟩
/-- The files that texts are the names of. -/
def pkS (F : List ByteArray) : List Sg := (F.filter fun s => ofB s.data.toList).map fun s => ofS s.data.toList
theorem pkS_snoc (F : List ByteArray) (k : Nat) (h : k < F.length) : pkS (F.take (k + 1)) = pkS (F.take k) ++ (if ofB F[k].data.toList = true then [ofS F[k].data.toList] else []) := by
  rw [List.take_succ_eq_append_getElem h]
  unfold pkS
  rw [List.filter_append, List.map_append]
  congr 1
  by_cases hb : ofB F[k].data.toList = true
  · rw [if_pos hb]; simp [hb]
  · rw [if_neg hb]; simp [hb]
theorem pkS_len (F : List ByteArray) : (pkS F).length ≤ F.length := by unfold pkS; rw [List.length_map]; exact List.length_filter_le _ _
theorem pkS_ok {F : List ByteArray} {s : Sg} (h : s ∈ pkS F) : okS s = true := by
  unfold pkS at h
  rw [List.mem_map] at h
  obtain ⟨a, ha, rfl⟩ := h
  exact (nm_of (List.mem_filter.1 ha).2).1
theorem info_sgRow : (Tryz.prog.info? 25).map (fun i => (i.zero, i.size, i.bytes)) = some (some (.agg #[.int .u8 0, .int .i64 0]), 2, 16) := by kernel_rfl
theorem info_strRow : (Tryz.prog.info? 9).map (fun i => (i.zero, i.size, i.bytes)) = some (some (.string ⟨#[]⟩), 1, 16) := by kernel_rfl
theorem one_sg (s : Sg) : ∀ u ∈ [Value.int .u8 (s.k.toNat : Int), .int .i64 s.n], u.oneCell' = true := sgC_one s
theorem sgC_snoc (L : List Sg) (s : Sg) : sgC (L ++ [s]) = sgC L ++ [.int .u8 (s.k.toNat : Int), .int .i64 s.n] := by rw [sgC_app]; rfl
/-- A layout. -/
def layC (o : Option Sg) (vs vt : Value) : Array Value := #[.int .u8 ((o.getD zS).k.toNat : Nat), .int .i64 (o.getD zS).n, .bool o.isSome, vs, vt]
def trN (L : List Sg) (o : Option Sg) : List (List UInt8) := (trasL L o).map nmL
theorem own_shape {w : World} {base size n : Nat} {T : TypeId} {v : Value} {xs : List Value} (h : w.ownsRow base T size v n xs) : ∃ A c, v = .slice A n c := by
  rcases h.2 with ⟨rfl, rfl⟩ | ⟨g, cap, cur, rfl, _⟩
  · exact ⟨_, _, rfl⟩
  · exact ⟨_, _, rfl⟩
theorem own_ne {w : World} {b b' size size' n n' : Nat} {T T' : TypeId} {v v' : Value} {xs xs' : List Value} (h : w.ownsRow b T size v n xs) (h' : w.ownsRow b' T' size' v' n' xs') (hT : T ≠ T') : v.ownBlock = none ∨ v.ownBlock ≠ v'.ownBlock := by
  rcases h.2 with ⟨rfl, rfl⟩ | ⟨g, cap, cur, rfl, _, hg, _⟩
  · exact Or.inl rfl
  · right
    rcases h'.2 with ⟨rfl, rfl⟩ | ⟨g', cap', cur', rfl, _, hg', _⟩
    · intro e; cases e
    · intro e
      injection e with e
      have e' : g = g' := e
      subst e'
      rw [hg] at hg'
      injection hg' with hg'
      injection hg' with _ h2 _
      exact hT h2
theorem grown_refl (w : World) (r : Option Nat) : w.grownBy w r := ⟨rfl, rfl, rfl, Nat.le_refl _, fun _ _ _ => rfl⟩
theorem own_set {w : World} {base size n O : Nat} {T : TypeId} {v : Value} {xs : List Value} (h : w.ownsRow base T size v n xs) (hO : O < base) (i : Nat) (u : Value) : (w.setCell ⟨O, i, none⟩ u).ownsRow base T size v n xs :=
  h.kept (grown_set (grown_refl w (some O)) i u) (by
    cases hv : v.ownBlock with
    | none => exact Or.inl rfl
    | some k => right; intro e; injection e with e; have := (h.lt k hv).1; omega)
theorem Blk.grown {w w' : World} {g : Nat} {t : TypeId} {cs : Array Value} {r : Option Nat} (h : Blk w g t cs) (hg : w.grownBy w' r) (hr : some g ≠ r) : Blk w' g t cs := (hg.block g h.lt hr).trans h
/-- A slice of files. -/
def SgRow (w : World) (v : Value) (L : List Sg) : Prop :=
  ∃ A cap, v = .slice A L.length cap ∧ (L ≠ [] → ∃ g off, A = some ⟨g, off, none⟩ ∧ g < w.heap.size ∧ ∀ k (h : k < L.length), w.cell? ⟨g, off + k * 2, none⟩ = some (.int .u8 (L[k].k.toNat : Nat)) ∧ w.cell? ⟨g, off + k * 2 + 1, none⟩ = some (.int .i64 L[k].n))
theorem SgRow.below {w w' : World} {v : Value} {L : List Sg} (h : SgRow w v L) (hb : Below w.heap.size w w') : SgRow w' v L := by
  obtain ⟨A, cap, h1, h2⟩ := h
  refine ⟨A, cap, h1, fun hne => ?_⟩
  obtain ⟨g, off, e, hg, hc⟩ := h2 hne
  exact ⟨g, off, e, Nat.lt_of_lt_of_le hg hb.size, fun k hk => ⟨(hb.cell (by exact hg)).trans (hc k hk).1, (hb.cell (by exact hg)).trans (hc k hk).2⟩⟩
theorem SgRow.own {w : World} {base : Nat} {T : TypeId} {v : Value} {L : List Sg} (h : w.ownsRow base T 2 v L.length (sgC L)) : SgRow w v L := by
  rcases h.2 with ⟨rfl, h0⟩ | ⟨g, cap, cur, rfl, _, hg, _⟩
  · exact ⟨none, 0, by rw [h0], fun hne => absurd (List.length_eq_zero_iff.1 h0) hne⟩
  · refine ⟨_, cap, rfl, fun _ => ⟨g, 0, rfl, (Array.getElem?_eq_some_iff.1 hg).1, fun k hk => ?_⟩⟩
    obtain ⟨g1, g2⟩ := sgC_get L k hk
    have c1 := h.cells (g := g) rfl (2 * k) _ g1
    have c2 := h.cells (g := g) rfl (2 * k + 1) _ g2
    have ea : ∀ j, (⟨g, 0, none⟩ : Addr).add j = ⟨g, j, none⟩ := fun j => by unfold Addr.add; split <;> simp_all
    rw [ea] at c1 c2
    rw [Nat.zero_add, Nat.mul_comm]
    exact ⟨c1, c2⟩
theorem snp_take (L : List Sg) (k : Nat) (h : k < L.length) : snp (L.take (k + 1)) = if isC L[k] = true then some L[k] else snp (L.take k) := by
  rw [List.take_succ_eq_append_getElem h, snp_snoc]
def LayPost (F : List ByteArray) (w : World) (e : Ending) (w' : World) : Prop :=
  ∃ vs vt, e = .returned (.agg (layC (snp (uq (pkS F))) vs vt)) ∧ w'.ownsRow w.heap.size 25 2 vs (segsL (uq (pkS F)) (snp (uq (pkS F)))).length (sgC (segsL (uq (pkS F)) (snp (uq (pkS F)))))
    ∧ w'.ownsRow w.heap.size 9 1 vt (trN (uq (pkS F)) (snp (uq (pkS F)))).length (strC ((trN (uq (pkS F)) (snp (uq (pkS F)))).mergeSort leB)) ∧ Below w.heap.size w w'

theorem one_kn (a b : Int) : ∀ u ∈ [Value.int .u8 a, .int .i64 b], u.oneCell' = true := by
  intro u hu; simp at hu; rcases hu with rfl | rfl <;> rfl
theorem segF_none {x : Sg} (h : isSR x = true) : segF none x = true := by simp [segF, isSn, geS, h]
theorem traF_none {x : Sg} (h : isSR x = false) : traF none x = true := by simp [traF, isSn, h]
theorem segF_some {x t : Sg} (hne : eqS x t = false) (h : isSR x = true) (hg : t.n ≤ x.n) : segF (some t) x = true := by simp [segF, isSn, geS, h, hne, hg]
theorem traF_some {x t : Sg} (hne : eqS x t = false) (h : isSR x = false) : traF (some t) x = true := by simp [traF, isSn, h, hne]
theorem traF_lt {x t : Sg} (hne : eqS x t = false) (hg : ¬ t.n ≤ x.n) : traF (some t) x = true := by simp [traF, isSn, geS, hne, hg]
theorem new_one (W : World) (T : TypeId) (a : Value) (g : Nat) (hg : g = W.heap.size) : ∀ (j : Nat) (u : Value), [a][j]? = some u → (W.alloc (.cells #[a] T)).cell? ((⟨g, 0, none⟩ : Addr).add j) = some u := by
  subst hg
  intro j u h
  match j with
  | 0 => simp at h; subst h; simp [Addr.add]
  | j + 1 => simp at h
theorem one_str (s : ByteArray) : ∀ u ∈ [Value.string s], u.oneCell' = true := by
  intro u hu; simp at hu; rw [hu]; rfl
theorem trn_le (M : List Sg) (o : Option Sg) {k : Nat} (h : M.length ≤ k) : (trN M o).length ≤ k := by
  unfold trN trasL; rw [List.length_map]; exact Nat.le_trans (List.length_filter_le _ _) h
theorem blk_ne {w : World} {b size n g : Nat} {T T' : TypeId} {v : Value} {xs : List Value} {cs : Array Value} (h : Blk w g T cs) (h' : w.ownsRow b T' size v n xs) (hT : T ≠ T') : some g ≠ v.ownBlock := by
  rcases h'.2 with ⟨rfl, rfl⟩ | ⟨g', cap', cur', rfl, _, hg', _⟩
  · intro e; cases e
  · intro e
    injection e with e
    have e' : g = g' := e
    subst e'
    have h2 : w.heap[g]? = _ := h
    rw [h2] at hg'
    injection hg' with hg'
    injection hg' with _ h3 _
    exact hT h3
theorem blk_step {w w' : World} {g : Nat} {t : TypeId} {cs : Array Value} (h : Blk w g t cs) (hb : Below w.heap.size w w') : Blk w' g t cs := (hb.block g h.lt).trans h
theorem results_row1 {P : Program} {fn : Func} {p : Tmp} {ty : TypeId} (h : fn.results = #[.cell p ty]) (tmps : Array Value) (w : World) (g : Nat) (t : TypeId) (cs : Array Value) (fr : Nat × Nat) (d : TypeDesc)
    (hp : tmps.getD p undef = .pointer (some ⟨g, 0, none⟩)) (hg : w.heap[g]? = some (.cells cs t fr))
    (hu : P.underlying ty = some d) (hd : (match d with | .struct _ | .array _ _ => true | _ => false) = true) (hi : (P.info? ty).map (·.size) = some cs.size) :
    (results fn tmps).run P w = .ok (.agg cs) w := by
  have hp' : tmps[p]?.getD undef = .pointer (some ⟨g, 0, none⟩) := by simpa using hp
  simp [results, h, hp', asAddr, run_loadVar_row w g t ty cs fr d hg hu hd hi]
theorem info_lay : (Tryz.prog.info? 28).map (·.size) = some 5 := by kernel_rfl
theorem five_set {W : World} {R : Nat} (h : Blk W R 28 (layC none (.slice none 0 0) (.slice none 0 0))) (o : Option Sg) (vs vt : Value) :
    Blk (((((W.setCell ⟨R, 0, none⟩ (.int .u8 ((o.getD zS).k.toNat : Nat))).setCell ⟨R, 1, none⟩ (.int .i64 (o.getD zS).n)).setCell ⟨R, 2, none⟩ (.bool o.isSome)).setCell ⟨R, 3, none⟩ vs).setCell ⟨R, 4, none⟩ vt) R 28 (layC o vs vt) :=
  ((((h.set_ 0 _).set_ 1 _).set_ 2 _).set_ 3 _).set_ 4 _
theorem own_lower {w : World} {b b' size n : Nat} {T : TypeId} {v : Value} {xs : List Value} (h : w.ownsRow b T size v n xs) (hb : b' ≤ b) : w.ownsRow b' T size v n xs := by
  refine ⟨h.1, ?_⟩
  rcases h.2 with h2 | ⟨g, cap, cur, h1, h2, h3⟩
  · exact Or.inl h2
  · exact Or.inr ⟨g, cap, cur, h1, Nat.le_trans hb h2, h3⟩
theorem own_five {W : World} {b R size n : Nat} {T : TypeId} {v : Value} {xs : List Value} (h : W.ownsRow b T size v n xs) (hR : R < b) (a0 a1 a2 a3 a4 : Value) :
    (((((W.setCell ⟨R, 0, none⟩ a0).setCell ⟨R, 1, none⟩ a1).setCell ⟨R, 2, none⟩ a2).setCell ⟨R, 3, none⟩ a3).setCell ⟨R, 4, none⟩ a4).ownsRow b T size v n xs :=
  own_set (own_set (own_set (own_set (own_set h hR _ _) hR _ _) hR _ _) hR _ _) hR _ _
theorem below_five {w W : World} {R : Nat} (h : Below w.heap.size w W) (hR : w.heap.size ≤ R) (a0 a1 a2 a3 a4 : Value) :
    Below w.heap.size w (((((W.setCell ⟨R, 0, none⟩ a0).setCell ⟨R, 1, none⟩ a1).setCell ⟨R, 2, none⟩ a2).setCell ⟨R, 3, none⟩ a3).setCell ⟨R, 4, none⟩ a4) :=
  ((((h.setCell hR _).setCell hR _).setCell hR _).setCell hR _).setCell hR _
/-- The layout that is made: its block, and its two rows. -/
structure Out (w3 wr : World) (o : Option Sg) (M : List Sg) (vs vt : Value) : Prop where
  blk : Blk wr w3.heap.size 28 (layC o vs vt)
  segs : wr.ownsRow (w3.heap.size + 1) 25 2 vs (segsL M o).length (sgC (segsL M o))
  tras : wr.ownsRow (w3.heap.size + 1) 9 1 vt (trN M o).length (strC (trN M o))
  below : Below w3.heap.size w3 wr
section
variable {w3 wr w' : World} {o : Option Sg} {M : List Sg} {vs vt : Value}
theorem Out.step (h : Out w3 wr o M vs vt) (hb : Below wr.heap.size wr w') : Out w3 w' o M vs vt :=
  ⟨(hb.block _ h.blk.lt).trans h.blk, ownsRow_below' h.segs hb, ownsRow_below' h.tras hb, h.below.trans (hb.mono h.below.size)⟩
theorem Out.alloc (h : Out w3 wr o M vs vt) (x : Obj) : Out w3 (wr.alloc x) o M vs vt := h.step (below_box _ _)
theorem Out.drew (h : Out w3 wr o M vs vt) : Out w3 wr.drew o M vs vt := h.step below_draw
theorem segs_add {o : Option Sg} {x : Sg} (M : List Sg) (h : segF o x = true) : segsL (M ++ [x]) o = segsL M o ++ [x] ∧ trN (M ++ [x]) o = trN M o := by
  have h2 : traF o x = false := by
    cases ht : traF o x
    · rfl
    · unfold segF at h; unfold traF at ht
      cases h3 : isSn o x <;> cases h4 : (isSR x && geS o x) <;> rw [h3, h4] at h ht <;> simp at h ht
  unfold trN segsL trasL
  rw [List.filter_append, List.filter_append]
  exact ⟨by simp [h], by simp [h2]⟩
theorem tras_add {o : Option Sg} {x : Sg} (M : List Sg) (h : traF o x = true) : segsL (M ++ [x]) o = segsL M o ∧ trN (M ++ [x]) o = trN M o ++ [nmL x] := by
  have h2 : segF o x = false := by
    cases ht : segF o x
    · rfl
    · unfold traF at h; unfold segF at ht
      cases h3 : isSn o x <;> cases h4 : (isSR x && geS o x) <;> rw [h3, h4] at h ht <;> simp at h ht
  unfold trN segsL trasL
  rw [List.filter_append, List.filter_append]
  exact ⟨by simp [h2], by simp [h]⟩
theorem Out.skip {x : Sg} (h : Out w3 wr o M vs vt) (hx : isSn o x = true) : Out w3 wr o (M ++ [x]) vs vt := by
  have h1 : segF o x = false := by unfold segF; rw [hx]; rfl
  have h2 : traF o x = false := by unfold traF; rw [hx]; rfl
  have e1 : segsL (M ++ [x]) o = segsL M o := by unfold segsL; rw [List.filter_append]; simp [h1]
  have e2 : trN (M ++ [x]) o = trN M o := by unfold trN trasL; rw [List.filter_append]; simp [h2]
  refine ⟨h.blk, ?_, ?_, h.below⟩
  · rw [e1]; exact h.segs
  · rw [e2]; exact h.tras
theorem own_far {w : World} {O size n : Nat} {T : TypeId} {v : Value} {xs : List Value} (h : w.ownsRow (O + 1) T size v n xs) : some O ≠ v.ownBlock := by
  intro e; have := (h.lt O e.symm).1; omega
theorem Out.seg {x : Sg} {xk xn : Int} {vs' : Value} {z : Obj} (h : Out w3 wr o M vs vt) (hx : segF o x = true) (hk : xk = (x.k.toNat : Nat)) (hn : xn = x.n)
    (hown : w'.ownsRow (w3.heap.size + 1) 25 2 vs' ((segsL M o).length + 1) (sgC (segsL M o) ++ [.int .u8 xk, .int .i64 xn])) (hg : (wr.alloc z).grownBy w' vs.ownBlock) :
    Blk w' w3.heap.size 28 (layC o vs vt) ∧ Out w3 (w'.setCell ⟨w3.heap.size, 3, none⟩ vs') o (M ++ [x]) vs' vt := by
  have h2 := h.alloc z
  obtain ⟨e1, e2⟩ := segs_add M hx
  have hb : Blk w' w3.heap.size 28 (layC o vs vt) := Blk.grown h2.blk hg (own_far h.segs)
  refine ⟨hb, ⟨hb.set_ 3 vs', ?_, ?_, ?_⟩⟩
  · rw [e1, List.length_append, sgC_snoc, ← hk, ← hn]
    exact own_set hown (by omega) _ _
  · rw [e2]
    exact own_set (h2.tras.kept hg (own_ne h2.tras h2.segs (by decide))) (by omega) _ _
  · exact (Below.grown h2.below hg h2.below.size (fun k hk => by have := (h2.segs.lt k hk).1; omega)).setCell (Nat.le_refl _) _
theorem Out.tra {x : Sg} {vt' : Value} {z : Obj} (h : Out w3 wr o M vs vt) (hx : traF o x = true)
    (hown : w'.ownsRow (w3.heap.size + 1) 9 1 vt' ((trN M o).length + 1) (strC (trN M o) ++ [.string (nmB x)])) (hg : (wr.alloc z).grownBy w' vt.ownBlock) :
    Blk w' w3.heap.size 28 (layC o vs vt) ∧ Out w3 (w'.setCell ⟨w3.heap.size, 4, none⟩ vt') o (M ++ [x]) vs vt' := by
  have h2 := h.alloc z
  obtain ⟨e1, e2⟩ := tras_add M hx
  have hb : Blk w' w3.heap.size 28 (layC o vs vt) := Blk.grown h2.blk hg (own_far h.tras)
  refine ⟨hb, ⟨hb.set_ 4 vt', ?_, ?_, ?_⟩⟩
  · rw [e1]
    exact own_set (h2.segs.kept hg (own_ne h2.segs h2.tras (by decide))) (by omega) _ _
  · have e3 : strC (trN M o ++ [nmL x]) = strC (trN M o) ++ [.string (nmB x)] := by unfold strC; rw [List.map_append]; rfl
    rw [e2, List.length_append, e3]
    exact own_set hown (by omega) _ _
  · exact (Below.grown h2.below hg h2.below.size (fun k hk => by have := (h2.tras.lt k hk).1; omega)).setCell (Nat.le_refl _) _
end
set_option maxRecDepth 100000 in
set_option maxHeartbeats 4000000 in
theorem lay_any {F : List ByteArray} {v : Value} {w : World} (hF : StrsAt w v F) (hl : F.length ≤ 1000) : Calls Tryz.prog 7 #[v] w (LayPost F w) := by
  obtain ⟨i0, hi, hz0, hz1, hz2⟩ := info_parts info_sgRow
  obtain ⟨s0, hs, si0, si1, si2⟩ := info_parts info_strRow
  obtain ⟨A, cap, rfl, hc⟩ := hF
  obtain ⟨n, hn⟩ : ∃ n, n = F.length := ⟨_, rfl⟩
  have HN := Lib.hid hn
  rw [← hn] at hl ⊢
  have HC := Lib.hid hc
  clear hc hn
  obtain ⟨W, hW⟩ : ∃ W, W = w.alloc (.cells (layC none (.slice none 0 0) (.slice none 0 0)) 28) := ⟨_, rfl⟩
  have HW := Lib.hid hW
  have HBW := Lib.hid (show Below w.heap.size w W by rw [hW]; exact below_box _ _)
  have BR := Lib.hid (show Blk W w.heap.size 28 (layC none (.slice none 0 0) (.slice none 0 0)) by rw [hW]; exact Blk.new _ _ _)
  have hwW : w.heap.size < W.heap.size := by rw [hW]; simp
  clear hW
  go_enter Tryz.func7, Tryz.ntmps7
  go_wp2_with fail
  have eW : w.alloc (.cells #[.int .u8 0, .int .i64 0, .bool false, .slice none 0 0, .slice none 0 0] 28) = W := HW.out.symm
  rw [eW]
  clear eW
  go_loopw [3, 15] (fun v i wr => ∃ k, k ≤ n ∧ i = .int .i64 (k : Nat) ∧ wr.ownsRow W.heap.size 25 2 v (pkS (F.take k)).length (sgC (pkS (F.take k))) ∧ Below W.heap.size W wr) (fun _ i _ => n - (intOf i).toNat)
  case atStart => exact ⟨0, Nat.zero_le _, rfl, World.ownsRow_nil _ _ _ _, Below.refl _ _⟩
  case round =>
    obtain ⟨k, hk, rfl, hown, hbw⟩ := hrel
    have hpl := pkS_len (F.take k)
    have hpl2 : (F.take k).length ≤ k := by rw [List.length_take]; omega
    by_cases hlk : k < n
    · have hlk' : k < F.length := by rw [← HN.out]; exact hlk
      obtain ⟨g, off, rfl, hg, hcl⟩ := HC.out (by intro h; rw [h] at hlk'; simp at hlk')
      have hps := pkS_snoc F k hlk'
      have c0 : wr.cell? ⟨g, off + k, none⟩ = some (.string F[k]) := (keepW HBW.out hbw |>.cell (by exact hg)).trans (hcl k hlk')
      clear hcl
      generalize F[k] = s at c0 hps
      have OF := of_any s
      unfold ofP at OF
      by_cases hb : ofB s.data.toList = true
      · rw [if_pos hb] at hps
        rw [hb] at OF
        clear hb
        unfold sgV at OF
        generalize ofS s.data.toList = x at OF hps
        replace OF := Lib.hid OF
        have HS := Lib.hid hps
        clear hps
        go_wp2_with (first | (go_at_call 26; refine (OF.out _).mono ?_; rintro e w1 ⟨rfl, hb1⟩; have hown1 := ownsRow_below' hown hb1; have hsz1 := hb1.size) | (at_builtin; refine wpList_append_own _ rfl _ _ 26 rfl W.heap.size 25 i0 (.agg #[.int .u8 0, .int .i64 0]) 2 16 Tryz.underlying26 hi hz0 hz1 hz2 rfl (by decide) _ _ _ rfl ((hown1.alloc _).alloc _) ⟨w1.heap.size + 1, 0, none⟩ 1 1 [.int .u8 (x.k.toNat : Int), .int .i64 x.n] rfl rfl (new_two (w1.alloc _) _ _ _ _ (by simp)) (one_sg x) (by unfold maxLen; omega) (by omega) (by have := hbw.size; simp; omega) ?_; intro v' w' hown' hgrow _; have hbw' := below_append hbw hb1 hown hgrow; clear hgrow))
        go_roundw
        case rel => exact ⟨k + 1, by omega, by go_num, by rw [HS.out, List.length_append, sgC_snoc]; exact hown', hbw'⟩
        case measure => simp [intOf]; omega
      · rw [if_neg hb, List.append_nil] at hps
        rw [show ofB s.data.toList = false by simpa using hb] at OF
        clear hb
        unfold sgV at OF
        generalize ofS s.data.toList = x at OF
        replace OF := Lib.hid OF
        have HS := Lib.hid hps
        clear hps
        go_wp2_with (go_at_call 26; refine (OF.out _).mono ?_; rintro e w1 ⟨rfl, hb1⟩; have hown1 := ownsRow_below' hown hb1)
        go_roundw
        case rel => exact ⟨k + 1, by omega, by go_num, by rw [HS.out]; exact hown1.alloc _, (keepW hbw hb1).alloc (by have := hbw.size; have := hb1.size; omega) _⟩
        case measure => simp [intOf]; omega
    · obtain rfl : k = n := by omega
      rw [show F.take k = F by rw [HN.out, List.take_length]] at hown
      have hpF : (pkS F).length ≤ 1000 := by have := pkS_len F; have := HN.out; omega
      clear hpl hpl2
      obtain ⟨L, hL⟩ : ∃ L, L = uq (pkS F) := ⟨_, rfl⟩
      have HL := Lib.hid hL
      obtain ⟨m, hm⟩ : ∃ m, m = L.length := ⟨_, rfl⟩
      have HM := Lib.hid hm
      clear hL hm
      go_wp2_with (first | (go_at_call 32; refine (sort_any hown hpF).mono ?_; rintro e w2 ⟨rfl, hs2, hg2⟩) | (go_at_call 33; refine (compact_own hs2 hpF).mono ?_; rw [← HL.out]; rintro e w3 ⟨v3, rfl, ho3, hg3⟩; obtain ⟨A3, c3, rfl, hc3⟩ := SgRow.own ho3; rw [← HM.out]; have HC3 := Lib.hid hc3; clear hc3))
      have HB3 := Lib.hid (show Below W.heap.size W w3 from Below.grown (Below.grown hbw hg2 hbw.size (fun k hk => (hown.lt k hk).1)) hg3 (Nat.le_trans hbw.size hg2.size) (fun k hk => (hs2.lt k hk).1))
      have hLn : m ≤ 1000 := by
        have h1 : (uq (pkS F)).length ≤ (srtS (pkS F)).length := by
          rw [← unq_is]
          unfold unqS Go.Lib.compactUpTo
          rw [List.length_map]
          exact Nat.le_trans (List.length_filter_le _ _) (by simp)
        rw [HM.out, HL.out]; rw [srt_len] at h1; omega
      have HO3 := Lib.hid ho3
      have HOK := Lib.hid (show ∀ x ∈ L, okS x = true from fun x hx => by rw [HL.out, mem_uq] at hx; exact pkS_ok hx)
      clear hown hs2 hg2 hg3 ho3 hbw
      go_loopw [36] (fun i wr => ∃ k, k ≤ m ∧ i = .int .i64 (k : Nat) ∧ Blk wr w3.heap.size 28 (layC (snp (L.take k)) (.slice none 0 0) (.slice none 0 0)) ∧ Below w3.heap.size w3 wr) (fun i _ => m - (intOf i).toNat)
      case atStart => exact ⟨0, Nat.zero_le _, rfl, Blk.new _ _ _, below_box _ _⟩
      case round =>
        obtain ⟨j, hj, rfl, hB, hb⟩ := hrel
        by_cases hlj' : j < m
        · have hlj : j < L.length := by rw [← HM.out]; exact hlj'
          obtain ⟨g, off, rfl, hg, hcl⟩ := HC3.out (by intro h; rw [h] at hlj; simp at hlj)
          have hst := snp_take L j hlj
          have c0 := (hb.cell (by exact hg)).trans (hcl j hlj).1
          have c1 := (hb.cell (by exact hg)).trans (hcl j hlj).2
          clear hcl
          generalize L[j] = x at c0 c1 hst
          clear hlj
          have o0 : wr.cell? ⟨w3.heap.size, 0, none⟩ = some (.int .u8 (((snp (L.take j)).getD zS).k.toNat : Nat)) := hB.cell 0
          have o1 : wr.cell? ⟨w3.heap.size, 1, none⟩ = some (.int .i64 ((snp (L.take j)).getD zS).n) := hB.cell 1
          have o2 : wr.cell? ⟨w3.heap.size, 2, none⟩ = some (.bool (snp (L.take j)).isSome) := hB.cell 2
          have f0 := hB.frozen 0
          have f1 := hB.frozen 1
          have f2 := hB.frozen 2
          generalize ((snp (L.take j)).getD zS).k.toNat = pk at o0
          generalize ((snp (L.take j)).getD zS).n = pn at o1
          generalize (snp (L.take j)).isSome = pb at o2
          have hO1 : w3.heap.size < wr.heap.size := hB.lt
          have hgr : g < wr.heap.size := by omega
          have HBb := Lib.hid hB
          clear hB
          by_cases hC : x.k.toNat = 99
          · have hsx : layC (some x) (.slice none 0 0) (.slice none 0 0) = #[.int .u8 99, .int .i64 x.n, .bool true, .slice none 0 0, .slice none 0 0] := by unfold layC; simp [hC]
            rw [if_pos (by unfold isC; rw [hC]; rfl)] at hst
            rw [hC] at c0
            have HS := Lib.hid hst
            have HX := Lib.hid hsx
            clear hst hsx hC
            generalize x.n = xn at c1 HX
            go_wp2
            go_roundw
            case rel => exact ⟨j + 1, by omega, by go_num, by rw [HS.out, HX.out]; exact (((HBb.out.set_ 0 _).set_ 1 _).set_ 2 _).alloc _, (((hb.setCell (Nat.le_refl _) _).setCell (Nat.le_refl _) _).setCell (Nat.le_refl _) _).alloc (by simp; omega) _⟩
            case measure => simp [intOf]; omega
          · rw [if_neg (by unfold isC; simpa using hC)] at hst
            have HS := Lib.hid hst
            clear hst
            have e1 : ((x.k.toNat : Int) == 99) = false := by rw [beq_eq_false_iff_ne]; omega
            have d1 : decide (x.k.toNat = 99) = false := decide_eq_false hC
            go_wp2
            go_roundw
            case rel => exact ⟨j + 1, by omega, by go_num, by rw [HS.out]; exact HBb.out.alloc _, hb.alloc (by omega) _⟩
            case measure => simp [intOf]; omega
        · obtain rfl : m = j := by omega
          rw [show L.take m = L by rw [HM.out, List.take_length]] at hB
          go_wp2_with fail
          -- LOOP 3
          have HB3o := Lib.hid hB
          obtain ⟨o, ho⟩ : ∃ o, o = snp L := ⟨_, rfl⟩
          have HOo := Lib.hid ho
          rw [← ho] at hB
          clear ho
          go_loopw [49] (fun i wr => ∃ k vs vt, k ≤ m ∧ i = .int .i64 (k : Nat) ∧ Out w3 wr o (L.take k) vs vt) (fun i _ => m - (intOf i).toNat)
          case atStart => exact ⟨0, .slice none 0 0, .slice none 0 0, Nat.zero_le _, rfl, ⟨hB, World.ownsRow_nil _ _ _ _, World.ownsRow_nil _ _ _ _, hb⟩⟩
          case round =>
            obtain ⟨j, vs, vt, hj, rfl, hO⟩ := hrel
            by_cases hlj' : j < m
            · have hlj : j < L.length := by rw [← HM.out]; exact hlj'
              obtain ⟨g, off, rfl, hg, hcl⟩ := HC3.out (by intro h; rw [h] at hlj; simp at hlj)
              have ht : L.take (j + 1) = L.take j ++ [L[j]] := List.take_succ_eq_append_getElem hlj
              have c0 := (hO.below.cell (by exact hg)).trans (hcl j hlj).1
              have c1 := (hO.below.cell (by exact hg)).trans (hcl j hlj).2
              clear hcl
              have SG := segment_any L[j]
              have NM := name_any L[j]
              have hok : okS L[j] = true := HOK.out _ (List.getElem_mem hlj)
              generalize L[j] = x at c0 c1 ht SG NM hok
              clear hlj
              unfold sgV at SG NM
              obtain ⟨xk, hxk⟩ : ∃ xk : Int, xk = (x.k.toNat : Nat) := ⟨_, rfl⟩
              obtain ⟨xn, hxn⟩ : ∃ xn : Int, xn = x.n := ⟨_, rfl⟩
              have hx64 : In64 x.n := by have := okS_iff.1 hok; unfold In64; omega
              replace NM := fun w => NM w hx64
              rw [← hxk, ← hxn] at SG NM
              rw [← hxk] at c0
              rw [← hxn] at c1
              have HXK := Lib.hid hxk
              have HXN := Lib.hid hxn
              have HT := Lib.hid ht
              replace NM := Lib.hid NM
              clear hxk hxn ht hok hx64
              obtain ⟨va, vc, rfl⟩ := own_shape hO.segs
              obtain ⟨ta, tc, rfl⟩ := own_shape hO.tras
              have hgr : g < wr.heap.size := by have := hO.below.size; omega
              have hO1 := hO.blk.lt
              have HO := Lib.hid hO
              clear hO
              cases o with
              | none =>
                have hln : (segsL (L.take j) none).length ≤ 1000 := Nat.le_trans (List.length_filter_le _ _) (by rw [List.length_take]; omega)
                have htn' : (trN (L.take j) none).length ≤ 1000 := trn_le (L.take j) none (by rw [List.length_take]; omega)
                have o0 : wr.cell? ⟨w3.heap.size, 0, none⟩ = some (.int .u8 0) := HO.out.blk.cell 0
                have o1 : wr.cell? ⟨w3.heap.size, 1, none⟩ = some (.int .i64 0) := HO.out.blk.cell 1
                have o2 : wr.cell? ⟨w3.heap.size, 2, none⟩ = some (.bool false) := HO.out.blk.cell 2
                have o3 : wr.cell? ⟨w3.heap.size, 3, none⟩ = some (.slice va (segsL (L.take j) none).length vc) := HO.out.blk.cell 3
                have o4 : wr.cell? ⟨w3.heap.size, 4, none⟩ = some (.slice ta (trN (L.take j) none).length tc) := HO.out.blk.cell 4
                by_cases hSR : isSR x = true
                · have HF := Lib.hid (segF_none hSR)
                  rw [hSR] at SG
                  replace SG := Lib.hid SG
                  clear hSR
                  go_wp2_with (first | (go_at_call 34; refine (SG.out _).mono ?_; rintro e w1 ⟨rfl, hb1⟩; have hO1 := (HO.out.alloc (.cells #[.int .u8 xk, .int .i64 xn] 25)).step hb1; have b0 : w1.cell? ⟨wr.heap.size, 0, none⟩ = some (.int .u8 xk) := (hb1.cell (by simp)).trans (by simp); have b1 : w1.cell? ⟨wr.heap.size, 1, none⟩ = some (.int .i64 xn) := (hb1.cell (by simp)).trans (by simp); have po0 : w1.cell? ⟨w3.heap.size, 0, none⟩ = some (.int .u8 0) := hO1.blk.cell 0; have po1 : w1.cell? ⟨w3.heap.size, 1, none⟩ = some (.int .i64 0) := hO1.blk.cell 1; have po2 : w1.cell? ⟨w3.heap.size, 2, none⟩ = some (.bool false) := hO1.blk.cell 2; have po3 : w1.cell? ⟨w3.heap.size, 3, none⟩ = some (.slice va (segsL (L.take j) none).length vc) := hO1.blk.cell 3; have po4 : w1.cell? ⟨w3.heap.size, 4, none⟩ = some (.slice ta (trN (L.take j) none).length tc) := hO1.blk.cell 4; have hs1 := hb1.size; have HO1 := Lib.hid hO1; clear hO1) | (at_builtin; refine wpList_append_own _ rfl _ _ 26 rfl (w3.heap.size + 1) 25 i0 (.agg #[.int .u8 0, .int .i64 0]) 2 16 Tryz.underlying26 hi hz0 hz1 hz2 rfl (by decide) _ _ _ rfl (HO1.out.segs.alloc _) ⟨w1.heap.size, 0, none⟩ 1 1 [.int .u8 xk, .int .i64 xn] rfl rfl (new_two w1 _ _ _ _ rfl) (one_kn xk xn) (by unfold maxLen; omega) (by omega) (by have := HO1.out.blk.lt; simp; omega) ?_; intro v' w' hown' hgrow _; obtain ⟨va', vc', rfl⟩ := own_shape hown'; have hO2 := HO1.out.seg HF.out HXK.out HXN.out hown' hgrow; have q3 : w'.cell? ⟨w3.heap.size, 3, none⟩ = some (.slice va (segsL (L.take j) none).length vc) := hO2.1.cell 3; have g3 := hO2.1.frozen 3; have HO2 := Lib.hid hO2; clear hO2 hown' hgrow))
                  go_roundw
                  case rel => exact ⟨j + 1, _, _, by omega, by go_num, by rw [HT.out]; exact HO2.out.2⟩
                  case measure => simp [intOf]; omega
                · have hSR' : isSR x = false := by simpa using hSR
                  have HF := Lib.hid (traF_none hSR')
                  rw [hSR'] at SG
                  replace SG := Lib.hid SG
                  clear hSR hSR'
                  go_wp2_with ((go_at_call 34; refine (SG.out _).mono ?_; rintro e w1 ⟨rfl, hb1⟩; have hO1 := (HO.out.alloc (.cells #[.int .u8 xk, .int .i64 xn] 25)).step hb1; have b0 : w1.cell? ⟨wr.heap.size, 0, none⟩ = some (.int .u8 xk) := (hb1.cell (by simp)).trans (by simp); have b1 : w1.cell? ⟨wr.heap.size, 1, none⟩ = some (.int .i64 xn) := (hb1.cell (by simp)).trans (by simp); have po0 : w1.cell? ⟨w3.heap.size, 0, none⟩ = some (.int .u8 0) := hO1.blk.cell 0; have po1 : w1.cell? ⟨w3.heap.size, 1, none⟩ = some (.int .i64 0) := hO1.blk.cell 1; have po2 : w1.cell? ⟨w3.heap.size, 2, none⟩ = some (.bool false) := hO1.blk.cell 2; have po3 : w1.cell? ⟨w3.heap.size, 3, none⟩ = some (.slice va (segsL (L.take j) none).length vc) := hO1.blk.cell 3; have po4 : w1.cell? ⟨w3.heap.size, 4, none⟩ = some (.slice ta (trN (L.take j) none).length tc) := hO1.blk.cell 4; have hBX : Blk w1 wr.heap.size 25 #[.int .u8 xk, .int .i64 xn] := blk_step (Blk.new _ _ _) hb1; have hs1 := hb1.size; have HO1 := Lib.hid hO1; clear hO1))
                  refine wp_region_noPanic ?_
                  refine wp_region_held_drew (S := fun w' => Blk w' wr.heap.size 25 #[.int .u8 xk, .int .i64 xn]) (by kernel_rfl) hBX (fun hS => ?_)
                  obtain ⟨wd, hwd⟩ : ∃ wd, wd = w1.drew := ⟨_, rfl⟩
                  have HD := Lib.hid (show Out w3 wd none (L.take j) _ _ by rw [hwd]; exact HO1.out.drew)
                  rw [← hwd] at hS ⊢
                  clear hwd
                  refine wpAnyH_take (i := 0) (v := ?_) rfl (by kernel_rfl) (by kernel_rfl) (by kernel_rfl) (fun _ _ _ h => h) (Or.inl ⟨by rfl, ?_⟩) hS ?_
                  rotate_left
                  · intro wx hSx
                    go_simp
                    try with_reducible rfl
                  simp only [Act.put, List.getElem_toArray, List.getElem_cons_zero, List.setIfInBounds_toArray, List.set_cons_zero, List.set_cons_succ]
                  refine wpAnyH_take (i := 2) (v := ?_) rfl (by kernel_rfl) (by kernel_rfl) (by kernel_rfl) (fun _ _ _ h => h) (Or.inl ⟨by rfl, ?_⟩) hS ?_
                  rotate_left
                  · intro wx hSx
                    have x0 : wx.cell? ⟨wr.heap.size, 0, none⟩ = some (.int .u8 xk) := Blk.cell hSx 0
                    have x1 : wx.cell? ⟨wr.heap.size, 1, none⟩ = some (.int .i64 xn) := Blk.cell hSx 1
                    go_simp
                    try with_reducible rfl
                  simp only [Act.put, List.getElem_toArray, List.getElem_cons_zero, List.getElem_cons_succ, List.setIfInBounds_toArray, List.set_cons_zero, List.set_cons_succ]
                  refine wpAnyH_ready (rs := [1, 3]) (by kernel_rfl) (by simp) ?_
                  refine AllReadyH.cons rfl (fun K hK => ?_) (AllReadyH.cons rfl (fun K hK => ?_) AllReadyH.nil)
                  · skip
                    simp only [List.getElem_toArray, List.getElem_cons_zero, List.getElem_cons_succ]
                    have p4 : wd.cell? ⟨w3.heap.size, 4, none⟩ = some (.slice ta (trN (L.take j) none).length tc) := HD.out.blk.cell 4
                    go_simp
                    refine hK.out _ _ hS (fun hS1 => ?_)
                    clear hK p4
                    refine wpAnyH_ready (rs := [3]) (by kernel_rfl) (by simp) ?_
                    refine AllReadyH.cons rfl (fun K hK => ?_) AllReadyH.nil
                    simp only [List.getElem_toArray, List.getElem_cons_zero, List.getElem_cons_succ]
                    go_simp
                    refine (NM.out _).mono ?_
                    rintro e w2 ⟨rfl, hb2⟩
                    have HE := Lib.hid (HD.out.step hb2)
                    refine hK.out _ _ (blk_step hS1 hb2) (fun hS2 => ?_)
                    clear hK
                    refine wpAnyH_ready (rs := [4]) (by kernel_rfl) (by simp) ?_
                    refine AllReadyH.cons rfl (fun K hK => ?_) AllReadyH.nil
                    simp only [List.getElem_toArray, List.getElem_cons_zero, List.getElem_cons_succ]
                    go_simp
                    refine hK.out _ _ (Blk.alloc hS2 _) (fun hS3 => ?_)
                    clear hK
                    refine wpAnyH_ready (rs := [5]) (by kernel_rfl) (by simp) ?_
                    refine AllReadyH.cons rfl (fun K hK => ?_) AllReadyH.nil
                    simp only [List.getElem_toArray, List.getElem_cons_zero, List.getElem_cons_succ]
                    refine wp_append_own _ _ _ 22 rfl (w3.heap.size + 1) 9 s0 (.string ⟨#[]⟩) 1 16 Tryz.underlying22 hs si0 si1 si2 rfl (by decide) _ _ _ rfl (HE.out.tras.alloc _) ⟨w2.heap.size, 0, none⟩ 1 1 [.string (nmB x)] rfl rfl (new_one w2 _ _ _ rfl) (one_str _) (by unfold maxLen; omega) (by omega) (by have := HE.out.blk.lt; simp; omega) ?_
                    intro v' w' hown' hgrow _
                    obtain ⟨ta', tc', rfl⟩ := own_shape hown'
                    have hO2 := HE.out.tra HF.out hown' hgrow
                    have q4 : w'.cell? ⟨w3.heap.size, 4, none⟩ = some (.slice ta (trN (L.take j) none).length tc) := hO2.1.cell 4
                    have g4 := hO2.1.frozen 4
                    have HO2 := Lib.hid hO2
                    refine hK.out _ _ (Blk.grown hS3 hgrow (blk_ne hS3 (HE.out.tras.alloc _) (by decide))) (fun hS4 => ?_)
                    clear hK hO2 hown' hgrow
                    refine wpAnyH_take (i := 6) (v := ?_) rfl (by kernel_rfl) (by kernel_rfl) (by kernel_rfl) (fun _ _ _ h => h) (Or.inl ⟨by rfl, ?_⟩) hS4 ?_
                    rotate_left
                    · intro wx hSx
                      go_simp
                      try with_reducible rfl
                    simp only [Act.put, List.getElem_toArray, List.getElem_cons_zero, List.getElem_cons_succ, List.setIfInBounds_toArray, List.set_cons_zero, List.set_cons_succ]
                    refine wpAnyH_ready (rs := [7]) (by kernel_rfl) (by simp) ?_
                    refine AllReadyH.cons rfl (fun K hK => ?_) AllReadyH.nil
                    simp only [List.getElem_toArray, List.getElem_cons_zero, List.getElem_cons_succ, Act.put]
                    go_simp
                    refine hK.out _ _ (Blk.far hS4 (by simp; omega) _) (fun hS5 => ?_)
                    clear hK
                    refine wpAnyH_done (by kernel_rfl) ?_ _
                    refine NoPanic.normal ?_
                    go_wp2
                    go_roundw
                    case rel => exact ⟨j + 1, _, _, by omega, by go_num, by rw [HT.out]; exact HO2.out.2⟩
                    case measure => simp [intOf]; omega
                  · skip
                    simp only [List.getElem_toArray, List.getElem_cons_zero, List.getElem_cons_succ]
                    go_simp
                    refine (NM.out _).mono ?_
                    rintro e w2 ⟨rfl, hb2⟩
                    have HE := Lib.hid (HD.out.step hb2)
                    refine hK.out _ _ (blk_step hS hb2) (fun hS2 => ?_)
                    clear hK
                    refine wpAnyH_ready (rs := [1, 4]) (by kernel_rfl) (by simp) ?_
                    refine AllReadyH.cons rfl (fun K hK => ?_) (AllReadyH.cons rfl (fun K hK => ?_) AllReadyH.nil)
                    · skip
                      simp only [List.getElem_toArray, List.getElem_cons_zero, List.getElem_cons_succ]
                      have p4 : w2.cell? ⟨w3.heap.size, 4, none⟩ = some (.slice ta (trN (L.take j) none).length tc) := HE.out.blk.cell 4
                      go_simp
                      refine hK.out _ _ hS2 (fun hS2b => ?_)
                      clear hK p4
                      refine wpAnyH_ready (rs := [4]) (by kernel_rfl) (by simp) ?_
                      refine AllReadyH.cons rfl (fun K hK => ?_) AllReadyH.nil
                      simp only [List.getElem_toArray, List.getElem_cons_zero, List.getElem_cons_succ]
                      go_simp
                      refine hK.out _ _ (Blk.alloc hS2b _) (fun hS3 => ?_)
                      clear hK
                      refine wpAnyH_ready (rs := [5]) (by kernel_rfl) (by simp) ?_
                      refine AllReadyH.cons rfl (fun K hK => ?_) AllReadyH.nil
                      simp only [List.getElem_toArray, List.getElem_cons_zero, List.getElem_cons_succ]
                      refine wp_append_own _ _ _ 22 rfl (w3.heap.size + 1) 9 s0 (.string ⟨#[]⟩) 1 16 Tryz.underlying22 hs si0 si1 si2 rfl (by decide) _ _ _ rfl (HE.out.tras.alloc _) ⟨w2.heap.size, 0, none⟩ 1 1 [.string (nmB x)] rfl rfl (new_one w2 _ _ _ rfl) (one_str _) (by unfold maxLen; omega) (by omega) (by have := HE.out.blk.lt; simp; omega) ?_
                      intro v' w' hown' hgrow _
                      obtain ⟨ta', tc', rfl⟩ := own_shape hown'
                      have hO2 := HE.out.tra HF.out hown' hgrow
                      have q4 : w'.cell? ⟨w3.heap.size, 4, none⟩ = some (.slice ta (trN (L.take j) none).length tc) := hO2.1.cell 4
                      have g4 := hO2.1.frozen 4
                      have HO2 := Lib.hid hO2
                      refine hK.out _ _ (Blk.grown hS3 hgrow (blk_ne hS3 (HE.out.tras.alloc _) (by decide))) (fun hS4 => ?_)
                      clear hK hO2 hown' hgrow
                      refine wpAnyH_take (i := 6) (v := ?_) rfl (by kernel_rfl) (by kernel_rfl) (by kernel_rfl) (fun _ _ _ h => h) (Or.inl ⟨by rfl, ?_⟩) hS4 ?_
                      rotate_left
                      · intro wx hSx
                        go_simp
                        try with_reducible rfl
                      simp only [Act.put, List.getElem_toArray, List.getElem_cons_zero, List.getElem_cons_succ, List.setIfInBounds_toArray, List.set_cons_zero, List.set_cons_succ]
                      refine wpAnyH_ready (rs := [7]) (by kernel_rfl) (by simp) ?_
                      refine AllReadyH.cons rfl (fun K hK => ?_) AllReadyH.nil
                      simp only [List.getElem_toArray, List.getElem_cons_zero, List.getElem_cons_succ, Act.put]
                      go_simp
                      refine hK.out _ _ (Blk.far hS4 (by simp; omega) _) (fun hS5 => ?_)
                      clear hK
                      refine wpAnyH_done (by kernel_rfl) ?_ _
                      refine NoPanic.normal ?_
                      go_wp2
                      go_roundw
                      case rel => exact ⟨j + 1, _, _, by omega, by go_num, by rw [HT.out]; exact HO2.out.2⟩
                      case measure => simp [intOf]; omega
                    · skip
                      simp only [List.getElem_toArray, List.getElem_cons_zero, List.getElem_cons_succ]
                      go_simp
                      refine hK.out _ _ (Blk.alloc hS2 _) (fun hS3 => ?_)
                      clear hK
                      refine wpAnyH_ready (rs := [1]) (by kernel_rfl) (by simp) ?_
                      refine AllReadyH.cons rfl (fun K hK => ?_) AllReadyH.nil
                      simp only [List.getElem_toArray, List.getElem_cons_zero, List.getElem_cons_succ]
                      have p4 : (w2.alloc (.cells #[.string (nmB x)] 9)).cell? ⟨w3.heap.size, 4, none⟩ = some (.slice ta (trN (L.take j) none).length tc) := (HE.out.alloc _).blk.cell 4
                      go_simp
                      refine hK.out _ _ hS3 (fun hS3b => ?_)
                      clear hK p4
                      refine wpAnyH_ready (rs := [5]) (by kernel_rfl) (by simp) ?_
                      refine AllReadyH.cons rfl (fun K hK => ?_) AllReadyH.nil
                      simp only [List.getElem_toArray, List.getElem_cons_zero, List.getElem_cons_succ]
                      refine wp_append_own _ _ _ 22 rfl (w3.heap.size + 1) 9 s0 (.string ⟨#[]⟩) 1 16 Tryz.underlying22 hs si0 si1 si2 rfl (by decide) _ _ _ rfl (HE.out.tras.alloc _) ⟨w2.heap.size, 0, none⟩ 1 1 [.string (nmB x)] rfl rfl (new_one w2 _ _ _ rfl) (one_str _) (by unfold maxLen; omega) (by omega) (by have := HE.out.blk.lt; simp; omega) ?_
                      intro v' w' hown' hgrow _
                      obtain ⟨ta', tc', rfl⟩ := own_shape hown'
                      have hO2 := HE.out.tra HF.out hown' hgrow
                      have q4 : w'.cell? ⟨w3.heap.size, 4, none⟩ = some (.slice ta (trN (L.take j) none).length tc) := hO2.1.cell 4
                      have g4 := hO2.1.frozen 4
                      have HO2 := Lib.hid hO2
                      refine hK.out _ _ (Blk.grown hS3b hgrow (blk_ne hS3b (HE.out.tras.alloc _) (by decide))) (fun hS4 => ?_)
                      clear hK hO2 hown' hgrow
                      refine wpAnyH_take (i := 6) (v := ?_) rfl (by kernel_rfl) (by kernel_rfl) (by kernel_rfl) (fun _ _ _ h => h) (Or.inl ⟨by rfl, ?_⟩) hS4 ?_
                      rotate_left
                      · intro wx hSx
                        go_simp
                        try with_reducible rfl
                      simp only [Act.put, List.getElem_toArray, List.getElem_cons_zero, List.getElem_cons_succ, List.setIfInBounds_toArray, List.set_cons_zero, List.set_cons_succ]
                      refine wpAnyH_ready (rs := [7]) (by kernel_rfl) (by simp) ?_
                      refine AllReadyH.cons rfl (fun K hK => ?_) AllReadyH.nil
                      simp only [List.getElem_toArray, List.getElem_cons_zero, List.getElem_cons_succ, Act.put]
                      go_simp
                      refine hK.out _ _ (Blk.far hS4 (by simp; omega) _) (fun hS5 => ?_)
                      clear hK
                      refine wpAnyH_done (by kernel_rfl) ?_ _
                      refine NoPanic.normal ?_
                      go_wp2
                      go_roundw
                      case rel => exact ⟨j + 1, _, _, by omega, by go_num, by rw [HT.out]; exact HO2.out.2⟩
                      case measure => simp [intOf]; omega
              | some t =>
                have hln : (segsL (L.take j) (some t)).length ≤ 1000 := Nat.le_trans (List.length_filter_le _ _) (by rw [List.length_take]; omega)
                have htn' : (trN (L.take j) (some t)).length ≤ 1000 := trn_le (L.take j) (some t) (by rw [List.length_take]; omega)
                obtain ⟨tk, htk⟩ : ∃ tk : Int, tk = (t.k.toNat : Nat) := ⟨_, rfl⟩
                obtain ⟨tn, htn⟩ : ∃ tn : Int, tn = t.n := ⟨_, rfl⟩
                have HTK := Lib.hid htk
                have HTN := Lib.hid htn
                clear htk htn
                have o0 : wr.cell? ⟨w3.heap.size, 0, none⟩ = some (.int .u8 tk) := (by rw [HTK.out]; exact HO.out.blk.cell 0)
                have o1 : wr.cell? ⟨w3.heap.size, 1, none⟩ = some (.int .i64 tn) := (by rw [HTN.out]; exact HO.out.blk.cell 1)
                have o2 : wr.cell? ⟨w3.heap.size, 2, none⟩ = some (.bool true) := HO.out.blk.cell 2
                have o3 : wr.cell? ⟨w3.heap.size, 3, none⟩ = some (.slice va (segsL (L.take j) (some t)).length vc) := HO.out.blk.cell 3
                have o4 : wr.cell? ⟨w3.heap.size, 4, none⟩ = some (.slice ta (trN (L.take j) (some t)).length tc) := HO.out.blk.cell 4
                by_cases hxt : x = t
                · have HF := Lib.hid (show isSn (some t) x = true by unfold isSn; rw [hxt]; exact eqS_self t)
                  have e1 : xk = tk := by rw [HXK.out, HTK.out, hxt]
                  have e2 : xn = tn := by rw [HXN.out, HTN.out, hxt]
                  clear hxt
                  subst e1 e2
                  go_wp2
                  go_roundw
                  case rel => exact ⟨j + 1, _, _, by omega, by go_num, by rw [HT.out]; exact (HO.out.alloc _).skip HF.out⟩
                  case measure => simp [intOf]; omega
                · have HNE := Lib.hid (show eqS x t = false from eqS_no.2 hxt)
                  have hne : ¬ xk = tk ∨ ¬ xn = tn := by
                    by_cases e : xk = tk
                    · right; intro e2; rw [HXK.out, HTK.out] at e; rw [HXN.out, HTN.out] at e2; exact hxt (sg_ext (UInt8.toNat_inj.1 (by omega)) e2)
                    · left; exact e
                  have HN2 := Lib.hid hne
                  clear hne hxt
                  by_cases e1 : xk = tk
                  · have e2 : ¬ xn = tn := HN2.out.resolve_left (fun h => h e1)
                    subst e1
                    by_cases hSR : isSR x = true
                    · rw [hSR] at SG
                      replace SG := Lib.hid SG
                      by_cases hge : tn ≤ xn
                      · have HF := Lib.hid (segF_some HNE.out hSR (by rw [← HTN.out, ← HXN.out]; exact hge))
                        clear hSR
                        go_wp2_with (first | (go_at_call 34; refine (SG.out _).mono ?_; rintro e w1 ⟨rfl, hb1⟩; have hO1 := (HO.out.alloc (.cells #[.int .u8 xk, .int .i64 xn] 25)).step hb1; have b0 : w1.cell? ⟨wr.heap.size, 0, none⟩ = some (.int .u8 xk) := (hb1.cell (by simp)).trans (by simp); have b1 : w1.cell? ⟨wr.heap.size, 1, none⟩ = some (.int .i64 xn) := (hb1.cell (by simp)).trans (by simp); have po0 : w1.cell? ⟨w3.heap.size, 0, none⟩ = some (.int .u8 xk) := (by rw [HTK.out]; exact hO1.blk.cell 0); have po1 : w1.cell? ⟨w3.heap.size, 1, none⟩ = some (.int .i64 tn) := (by rw [HTN.out]; exact hO1.blk.cell 1); have po2 : w1.cell? ⟨w3.heap.size, 2, none⟩ = some (.bool true) := hO1.blk.cell 2; have po3 : w1.cell? ⟨w3.heap.size, 3, none⟩ = some (.slice va (segsL (L.take j) (some t)).length vc) := hO1.blk.cell 3; have po4 : w1.cell? ⟨w3.heap.size, 4, none⟩ = some (.slice ta (trN (L.take j) (some t)).length tc) := hO1.blk.cell 4; have hs1 := hb1.size; have HO1 := Lib.hid hO1; clear hO1) | (at_builtin; refine wpList_append_own _ rfl _ _ 26 rfl (w3.heap.size + 1) 25 i0 (.agg #[.int .u8 0, .int .i64 0]) 2 16 Tryz.underlying26 hi hz0 hz1 hz2 rfl (by decide) _ _ _ rfl (HO1.out.segs.alloc _) ⟨w1.heap.size, 0, none⟩ 1 1 [.int .u8 xk, .int .i64 xn] rfl rfl (new_two w1 _ _ _ _ rfl) (one_kn xk xn) (by unfold maxLen; omega) (by omega) (by have := HO1.out.blk.lt; simp; omega) ?_; intro v' w' hown' hgrow _; obtain ⟨va', vc', rfl⟩ := own_shape hown'; have hO2 := HO1.out.seg HF.out HXK.out HXN.out hown' hgrow; have q3 : w'.cell? ⟨w3.heap.size, 3, none⟩ = some (.slice va (segsL (L.take j) (some t)).length vc) := hO2.1.cell 3; have g3 := hO2.1.frozen 3; have HO2 := Lib.hid hO2; clear hO2 hown' hgrow))
                        go_roundw
                        case rel => exact ⟨j + 1, _, _, by omega, by go_num, by rw [HT.out]; exact HO2.out.2⟩
                        case measure => simp [intOf]; omega
                      · have HF := Lib.hid (traF_lt HNE.out (by rw [← HTN.out, ← HXN.out]; exact hge))
                        clear hSR
                        go_wp2_with ((go_at_call 34; refine (SG.out _).mono ?_; rintro e w1 ⟨rfl, hb1⟩; have hO1 := (HO.out.alloc (.cells #[.int .u8 xk, .int .i64 xn] 25)).step hb1; have b0 : w1.cell? ⟨wr.heap.size, 0, none⟩ = some (.int .u8 xk) := (hb1.cell (by simp)).trans (by simp); have b1 : w1.cell? ⟨wr.heap.size, 1, none⟩ = some (.int .i64 xn) := (hb1.cell (by simp)).trans (by simp); have po0 : w1.cell? ⟨w3.heap.size, 0, none⟩ = some (.int .u8 xk) := (by rw [HTK.out]; exact hO1.blk.cell 0); have po1 : w1.cell? ⟨w3.heap.size, 1, none⟩ = some (.int .i64 tn) := (by rw [HTN.out]; exact hO1.blk.cell 1); have po2 : w1.cell? ⟨w3.heap.size, 2, none⟩ = some (.bool true) := hO1.blk.cell 2; have po3 : w1.cell? ⟨w3.heap.size, 3, none⟩ = some (.slice va (segsL (L.take j) (some t)).length vc) := hO1.blk.cell 3; have po4 : w1.cell? ⟨w3.heap.size, 4, none⟩ = some (.slice ta (trN (L.take j) (some t)).length tc) := hO1.blk.cell 4; have hBX : Blk w1 wr.heap.size 25 #[.int .u8 xk, .int .i64 xn] := blk_step (Blk.new _ _ _) hb1; have hs1 := hb1.size; have HO1 := Lib.hid hO1; clear hO1))
                        refine wp_region_noPanic ?_
                        refine wp_region_held_drew (S := fun w' => Blk w' wr.heap.size 25 #[.int .u8 xk, .int .i64 xn]) (by kernel_rfl) hBX (fun hS => ?_)
                        obtain ⟨wd, hwd⟩ : ∃ wd, wd = w1.drew := ⟨_, rfl⟩
                        have HD := Lib.hid (show Out w3 wd (some t) (L.take j) _ _ by rw [hwd]; exact HO1.out.drew)
                        rw [← hwd] at hS ⊢
                        clear hwd
                        refine wpAnyH_take (i := 0) (v := ?_) rfl (by kernel_rfl) (by kernel_rfl) (by kernel_rfl) (fun _ _ _ h => h) (Or.inl ⟨by rfl, ?_⟩) hS ?_
                        rotate_left
                        · intro wx hSx
                          go_simp
                          try with_reducible rfl
                        simp only [Act.put, List.getElem_toArray, List.getElem_cons_zero, List.setIfInBounds_toArray, List.set_cons_zero, List.set_cons_succ]
                        refine wpAnyH_take (i := 2) (v := ?_) rfl (by kernel_rfl) (by kernel_rfl) (by kernel_rfl) (fun _ _ _ h => h) (Or.inl ⟨by rfl, ?_⟩) hS ?_
                        rotate_left
                        · intro wx hSx
                          have x0 : wx.cell? ⟨wr.heap.size, 0, none⟩ = some (.int .u8 xk) := Blk.cell hSx 0
                          have x1 : wx.cell? ⟨wr.heap.size, 1, none⟩ = some (.int .i64 xn) := Blk.cell hSx 1
                          go_simp
                          try with_reducible rfl
                        simp only [Act.put, List.getElem_toArray, List.getElem_cons_zero, List.getElem_cons_succ, List.setIfInBounds_toArray, List.set_cons_zero, List.set_cons_succ]
                        refine wpAnyH_ready (rs := [1, 3]) (by kernel_rfl) (by simp) ?_
                        refine AllReadyH.cons rfl (fun K hK => ?_) (AllReadyH.cons rfl (fun K hK => ?_) AllReadyH.nil)
                        · skip
                          simp only [List.getElem_toArray, List.getElem_cons_zero, List.getElem_cons_succ]
                          have p4 : wd.cell? ⟨w3.heap.size, 4, none⟩ = some (.slice ta (trN (L.take j) (some t)).length tc) := HD.out.blk.cell 4
                          go_simp
                          refine hK.out _ _ hS (fun hS1 => ?_)
                          clear hK p4
                          refine wpAnyH_ready (rs := [3]) (by kernel_rfl) (by simp) ?_
                          refine AllReadyH.cons rfl (fun K hK => ?_) AllReadyH.nil
                          simp only [List.getElem_toArray, List.getElem_cons_zero, List.getElem_cons_succ]
                          go_simp
                          refine (NM.out _).mono ?_
                          rintro e w2 ⟨rfl, hb2⟩
                          have HE := Lib.hid (HD.out.step hb2)
                          refine hK.out _ _ (blk_step hS1 hb2) (fun hS2 => ?_)
                          clear hK
                          refine wpAnyH_ready (rs := [4]) (by kernel_rfl) (by simp) ?_
                          refine AllReadyH.cons rfl (fun K hK => ?_) AllReadyH.nil
                          simp only [List.getElem_toArray, List.getElem_cons_zero, List.getElem_cons_succ]
                          go_simp
                          refine hK.out _ _ (Blk.alloc hS2 _) (fun hS3 => ?_)
                          clear hK
                          refine wpAnyH_ready (rs := [5]) (by kernel_rfl) (by simp) ?_
                          refine AllReadyH.cons rfl (fun K hK => ?_) AllReadyH.nil
                          simp only [List.getElem_toArray, List.getElem_cons_zero, List.getElem_cons_succ]
                          refine wp_append_own _ _ _ 22 rfl (w3.heap.size + 1) 9 s0 (.string ⟨#[]⟩) 1 16 Tryz.underlying22 hs si0 si1 si2 rfl (by decide) _ _ _ rfl (HE.out.tras.alloc _) ⟨w2.heap.size, 0, none⟩ 1 1 [.string (nmB x)] rfl rfl (new_one w2 _ _ _ rfl) (one_str _) (by unfold maxLen; omega) (by omega) (by have := HE.out.blk.lt; simp; omega) ?_
                          intro v' w' hown' hgrow _
                          obtain ⟨ta', tc', rfl⟩ := own_shape hown'
                          have hO2 := HE.out.tra HF.out hown' hgrow
                          have q4 : w'.cell? ⟨w3.heap.size, 4, none⟩ = some (.slice ta (trN (L.take j) (some t)).length tc) := hO2.1.cell 4
                          have g4 := hO2.1.frozen 4
                          have HO2 := Lib.hid hO2
                          refine hK.out _ _ (Blk.grown hS3 hgrow (blk_ne hS3 (HE.out.tras.alloc _) (by decide))) (fun hS4 => ?_)
                          clear hK hO2 hown' hgrow
                          refine wpAnyH_take (i := 6) (v := ?_) rfl (by kernel_rfl) (by kernel_rfl) (by kernel_rfl) (fun _ _ _ h => h) (Or.inl ⟨by rfl, ?_⟩) hS4 ?_
                          rotate_left
                          · intro wx hSx
                            go_simp
                            try with_reducible rfl
                          simp only [Act.put, List.getElem_toArray, List.getElem_cons_zero, List.getElem_cons_succ, List.setIfInBounds_toArray, List.set_cons_zero, List.set_cons_succ]
                          refine wpAnyH_ready (rs := [7]) (by kernel_rfl) (by simp) ?_
                          refine AllReadyH.cons rfl (fun K hK => ?_) AllReadyH.nil
                          simp only [List.getElem_toArray, List.getElem_cons_zero, List.getElem_cons_succ, Act.put]
                          go_simp
                          refine hK.out _ _ (Blk.far hS4 (by simp; omega) _) (fun hS5 => ?_)
                          clear hK
                          refine wpAnyH_done (by kernel_rfl) ?_ _
                          refine NoPanic.normal ?_
                          go_wp2
                          go_roundw
                          case rel => exact ⟨j + 1, _, _, by omega, by go_num, by rw [HT.out]; exact HO2.out.2⟩
                          case measure => simp [intOf]; omega
                        · skip
                          simp only [List.getElem_toArray, List.getElem_cons_zero, List.getElem_cons_succ]
                          go_simp
                          refine (NM.out _).mono ?_
                          rintro e w2 ⟨rfl, hb2⟩
                          have HE := Lib.hid (HD.out.step hb2)
                          refine hK.out _ _ (blk_step hS hb2) (fun hS2 => ?_)
                          clear hK
                          refine wpAnyH_ready (rs := [1, 4]) (by kernel_rfl) (by simp) ?_
                          refine AllReadyH.cons rfl (fun K hK => ?_) (AllReadyH.cons rfl (fun K hK => ?_) AllReadyH.nil)
                          · skip
                            simp only [List.getElem_toArray, List.getElem_cons_zero, List.getElem_cons_succ]
                            have p4 : w2.cell? ⟨w3.heap.size, 4, none⟩ = some (.slice ta (trN (L.take j) (some t)).length tc) := HE.out.blk.cell 4
                            go_simp
                            refine hK.out _ _ hS2 (fun hS2b => ?_)
                            clear hK p4
                            refine wpAnyH_ready (rs := [4]) (by kernel_rfl) (by simp) ?_
                            refine AllReadyH.cons rfl (fun K hK => ?_) AllReadyH.nil
                            simp only [List.getElem_toArray, List.getElem_cons_zero, List.getElem_cons_succ]
                            go_simp
                            refine hK.out _ _ (Blk.alloc hS2b _) (fun hS3 => ?_)
                            clear hK
                            refine wpAnyH_ready (rs := [5]) (by kernel_rfl) (by simp) ?_
                            refine AllReadyH.cons rfl (fun K hK => ?_) AllReadyH.nil
                            simp only [List.getElem_toArray, List.getElem_cons_zero, List.getElem_cons_succ]
                            refine wp_append_own _ _ _ 22 rfl (w3.heap.size + 1) 9 s0 (.string ⟨#[]⟩) 1 16 Tryz.underlying22 hs si0 si1 si2 rfl (by decide) _ _ _ rfl (HE.out.tras.alloc _) ⟨w2.heap.size, 0, none⟩ 1 1 [.string (nmB x)] rfl rfl (new_one w2 _ _ _ rfl) (one_str _) (by unfold maxLen; omega) (by omega) (by have := HE.out.blk.lt; simp; omega) ?_
                            intro v' w' hown' hgrow _
                            obtain ⟨ta', tc', rfl⟩ := own_shape hown'
                            have hO2 := HE.out.tra HF.out hown' hgrow
                            have q4 : w'.cell? ⟨w3.heap.size, 4, none⟩ = some (.slice ta (trN (L.take j) (some t)).length tc) := hO2.1.cell 4
                            have g4 := hO2.1.frozen 4
                            have HO2 := Lib.hid hO2
                            refine hK.out _ _ (Blk.grown hS3 hgrow (blk_ne hS3 (HE.out.tras.alloc _) (by decide))) (fun hS4 => ?_)
                            clear hK hO2 hown' hgrow
                            refine wpAnyH_take (i := 6) (v := ?_) rfl (by kernel_rfl) (by kernel_rfl) (by kernel_rfl) (fun _ _ _ h => h) (Or.inl ⟨by rfl, ?_⟩) hS4 ?_
                            rotate_left
                            · intro wx hSx
                              go_simp
                              try with_reducible rfl
                            simp only [Act.put, List.getElem_toArray, List.getElem_cons_zero, List.getElem_cons_succ, List.setIfInBounds_toArray, List.set_cons_zero, List.set_cons_succ]
                            refine wpAnyH_ready (rs := [7]) (by kernel_rfl) (by simp) ?_
                            refine AllReadyH.cons rfl (fun K hK => ?_) AllReadyH.nil
                            simp only [List.getElem_toArray, List.getElem_cons_zero, List.getElem_cons_succ, Act.put]
                            go_simp
                            refine hK.out _ _ (Blk.far hS4 (by simp; omega) _) (fun hS5 => ?_)
                            clear hK
                            refine wpAnyH_done (by kernel_rfl) ?_ _
                            refine NoPanic.normal ?_
                            go_wp2
                            go_roundw
                            case rel => exact ⟨j + 1, _, _, by omega, by go_num, by rw [HT.out]; exact HO2.out.2⟩
                            case measure => simp [intOf]; omega
                          · skip
                            simp only [List.getElem_toArray, List.getElem_cons_zero, List.getElem_cons_succ]
                            go_simp
                            refine hK.out _ _ (Blk.alloc hS2 _) (fun hS3 => ?_)
                            clear hK
                            refine wpAnyH_ready (rs := [1]) (by kernel_rfl) (by simp) ?_
                            refine AllReadyH.cons rfl (fun K hK => ?_) AllReadyH.nil
                            simp only [List.getElem_toArray, List.getElem_cons_zero, List.getElem_cons_succ]
                            have p4 : (w2.alloc (.cells #[.string (nmB x)] 9)).cell? ⟨w3.heap.size, 4, none⟩ = some (.slice ta (trN (L.take j) (some t)).length tc) := (HE.out.alloc _).blk.cell 4
                            go_simp
                            refine hK.out _ _ hS3 (fun hS3b => ?_)
                            clear hK p4
                            refine wpAnyH_ready (rs := [5]) (by kernel_rfl) (by simp) ?_
                            refine AllReadyH.cons rfl (fun K hK => ?_) AllReadyH.nil
                            simp only [List.getElem_toArray, List.getElem_cons_zero, List.getElem_cons_succ]
                            refine wp_append_own _ _ _ 22 rfl (w3.heap.size + 1) 9 s0 (.string ⟨#[]⟩) 1 16 Tryz.underlying22 hs si0 si1 si2 rfl (by decide) _ _ _ rfl (HE.out.tras.alloc _) ⟨w2.heap.size, 0, none⟩ 1 1 [.string (nmB x)] rfl rfl (new_one w2 _ _ _ rfl) (one_str _) (by unfold maxLen; omega) (by omega) (by have := HE.out.blk.lt; simp; omega) ?_
                            intro v' w' hown' hgrow _
                            obtain ⟨ta', tc', rfl⟩ := own_shape hown'
                            have hO2 := HE.out.tra HF.out hown' hgrow
                            have q4 : w'.cell? ⟨w3.heap.size, 4, none⟩ = some (.slice ta (trN (L.take j) (some t)).length tc) := hO2.1.cell 4
                            have g4 := hO2.1.frozen 4
                            have HO2 := Lib.hid hO2
                            refine hK.out _ _ (Blk.grown hS3b hgrow (blk_ne hS3b (HE.out.tras.alloc _) (by decide))) (fun hS4 => ?_)
                            clear hK hO2 hown' hgrow
                            refine wpAnyH_take (i := 6) (v := ?_) rfl (by kernel_rfl) (by kernel_rfl) (by kernel_rfl) (fun _ _ _ h => h) (Or.inl ⟨by rfl, ?_⟩) hS4 ?_
                            rotate_left
                            · intro wx hSx
                              go_simp
                              try with_reducible rfl
                            simp only [Act.put, List.getElem_toArray, List.getElem_cons_zero, List.getElem_cons_succ, List.setIfInBounds_toArray, List.set_cons_zero, List.set_cons_succ]
                            refine wpAnyH_ready (rs := [7]) (by kernel_rfl) (by simp) ?_
                            refine AllReadyH.cons rfl (fun K hK => ?_) AllReadyH.nil
                            simp only [List.getElem_toArray, List.getElem_cons_zero, List.getElem_cons_succ, Act.put]
                            go_simp
                            refine hK.out _ _ (Blk.far hS4 (by simp; omega) _) (fun hS5 => ?_)
                            clear hK
                            refine wpAnyH_done (by kernel_rfl) ?_ _
                            refine NoPanic.normal ?_
                            go_wp2
                            go_roundw
                            case rel => exact ⟨j + 1, _, _, by omega, by go_num, by rw [HT.out]; exact HO2.out.2⟩
                            case measure => simp [intOf]; omega
                    · have hSR' : isSR x = false := by simpa using hSR
                      have HF := Lib.hid (traF_some HNE.out hSR')
                      rw [hSR'] at SG
                      replace SG := Lib.hid SG
                      clear hSR hSR'
                      go_wp2_with ((go_at_call 34; refine (SG.out _).mono ?_; rintro e w1 ⟨rfl, hb1⟩; have hO1 := (HO.out.alloc (.cells #[.int .u8 xk, .int .i64 xn] 25)).step hb1; have b0 : w1.cell? ⟨wr.heap.size, 0, none⟩ = some (.int .u8 xk) := (hb1.cell (by simp)).trans (by simp); have b1 : w1.cell? ⟨wr.heap.size, 1, none⟩ = some (.int .i64 xn) := (hb1.cell (by simp)).trans (by simp); have po0 : w1.cell? ⟨w3.heap.size, 0, none⟩ = some (.int .u8 xk) := (by rw [HTK.out]; exact hO1.blk.cell 0); have po1 : w1.cell? ⟨w3.heap.size, 1, none⟩ = some (.int .i64 tn) := (by rw [HTN.out]; exact hO1.blk.cell 1); have po2 : w1.cell? ⟨w3.heap.size, 2, none⟩ = some (.bool true) := hO1.blk.cell 2; have po3 : w1.cell? ⟨w3.heap.size, 3, none⟩ = some (.slice va (segsL (L.take j) (some t)).length vc) := hO1.blk.cell 3; have po4 : w1.cell? ⟨w3.heap.size, 4, none⟩ = some (.slice ta (trN (L.take j) (some t)).length tc) := hO1.blk.cell 4; have hBX : Blk w1 wr.heap.size 25 #[.int .u8 xk, .int .i64 xn] := blk_step (Blk.new _ _ _) hb1; have hs1 := hb1.size; have HO1 := Lib.hid hO1; clear hO1))
                      refine wp_region_noPanic ?_
                      refine wp_region_held_drew (S := fun w' => Blk w' wr.heap.size 25 #[.int .u8 xk, .int .i64 xn]) (by kernel_rfl) hBX (fun hS => ?_)
                      obtain ⟨wd, hwd⟩ : ∃ wd, wd = w1.drew := ⟨_, rfl⟩
                      have HD := Lib.hid (show Out w3 wd (some t) (L.take j) _ _ by rw [hwd]; exact HO1.out.drew)
                      rw [← hwd] at hS ⊢
                      clear hwd
                      refine wpAnyH_take (i := 0) (v := ?_) rfl (by kernel_rfl) (by kernel_rfl) (by kernel_rfl) (fun _ _ _ h => h) (Or.inl ⟨by rfl, ?_⟩) hS ?_
                      rotate_left
                      · intro wx hSx
                        go_simp
                        try with_reducible rfl
                      simp only [Act.put, List.getElem_toArray, List.getElem_cons_zero, List.setIfInBounds_toArray, List.set_cons_zero, List.set_cons_succ]
                      refine wpAnyH_take (i := 2) (v := ?_) rfl (by kernel_rfl) (by kernel_rfl) (by kernel_rfl) (fun _ _ _ h => h) (Or.inl ⟨by rfl, ?_⟩) hS ?_
                      rotate_left
                      · intro wx hSx
                        have x0 : wx.cell? ⟨wr.heap.size, 0, none⟩ = some (.int .u8 xk) := Blk.cell hSx 0
                        have x1 : wx.cell? ⟨wr.heap.size, 1, none⟩ = some (.int .i64 xn) := Blk.cell hSx 1
                        go_simp
                        try with_reducible rfl
                      simp only [Act.put, List.getElem_toArray, List.getElem_cons_zero, List.getElem_cons_succ, List.setIfInBounds_toArray, List.set_cons_zero, List.set_cons_succ]
                      refine wpAnyH_ready (rs := [1, 3]) (by kernel_rfl) (by simp) ?_
                      refine AllReadyH.cons rfl (fun K hK => ?_) (AllReadyH.cons rfl (fun K hK => ?_) AllReadyH.nil)
                      · skip
                        simp only [List.getElem_toArray, List.getElem_cons_zero, List.getElem_cons_succ]
                        have p4 : wd.cell? ⟨w3.heap.size, 4, none⟩ = some (.slice ta (trN (L.take j) (some t)).length tc) := HD.out.blk.cell 4
                        go_simp
                        refine hK.out _ _ hS (fun hS1 => ?_)
                        clear hK p4
                        refine wpAnyH_ready (rs := [3]) (by kernel_rfl) (by simp) ?_
                        refine AllReadyH.cons rfl (fun K hK => ?_) AllReadyH.nil
                        simp only [List.getElem_toArray, List.getElem_cons_zero, List.getElem_cons_succ]
                        go_simp
                        refine (NM.out _).mono ?_
                        rintro e w2 ⟨rfl, hb2⟩
                        have HE := Lib.hid (HD.out.step hb2)
                        refine hK.out _ _ (blk_step hS1 hb2) (fun hS2 => ?_)
                        clear hK
                        refine wpAnyH_ready (rs := [4]) (by kernel_rfl) (by simp) ?_
                        refine AllReadyH.cons rfl (fun K hK => ?_) AllReadyH.nil
                        simp only [List.getElem_toArray, List.getElem_cons_zero, List.getElem_cons_succ]
                        go_simp
                        refine hK.out _ _ (Blk.alloc hS2 _) (fun hS3 => ?_)
                        clear hK
                        refine wpAnyH_ready (rs := [5]) (by kernel_rfl) (by simp) ?_
                        refine AllReadyH.cons rfl (fun K hK => ?_) AllReadyH.nil
                        simp only [List.getElem_toArray, List.getElem_cons_zero, List.getElem_cons_succ]
                        refine wp_append_own _ _ _ 22 rfl (w3.heap.size + 1) 9 s0 (.string ⟨#[]⟩) 1 16 Tryz.underlying22 hs si0 si1 si2 rfl (by decide) _ _ _ rfl (HE.out.tras.alloc _) ⟨w2.heap.size, 0, none⟩ 1 1 [.string (nmB x)] rfl rfl (new_one w2 _ _ _ rfl) (one_str _) (by unfold maxLen; omega) (by omega) (by have := HE.out.blk.lt; simp; omega) ?_
                        intro v' w' hown' hgrow _
                        obtain ⟨ta', tc', rfl⟩ := own_shape hown'
                        have hO2 := HE.out.tra HF.out hown' hgrow
                        have q4 : w'.cell? ⟨w3.heap.size, 4, none⟩ = some (.slice ta (trN (L.take j) (some t)).length tc) := hO2.1.cell 4
                        have g4 := hO2.1.frozen 4
                        have HO2 := Lib.hid hO2
                        refine hK.out _ _ (Blk.grown hS3 hgrow (blk_ne hS3 (HE.out.tras.alloc _) (by decide))) (fun hS4 => ?_)
                        clear hK hO2 hown' hgrow
                        refine wpAnyH_take (i := 6) (v := ?_) rfl (by kernel_rfl) (by kernel_rfl) (by kernel_rfl) (fun _ _ _ h => h) (Or.inl ⟨by rfl, ?_⟩) hS4 ?_
                        rotate_left
                        · intro wx hSx
                          go_simp
                          try with_reducible rfl
                        simp only [Act.put, List.getElem_toArray, List.getElem_cons_zero, List.getElem_cons_succ, List.setIfInBounds_toArray, List.set_cons_zero, List.set_cons_succ]
                        refine wpAnyH_ready (rs := [7]) (by kernel_rfl) (by simp) ?_
                        refine AllReadyH.cons rfl (fun K hK => ?_) AllReadyH.nil
                        simp only [List.getElem_toArray, List.getElem_cons_zero, List.getElem_cons_succ, Act.put]
                        go_simp
                        refine hK.out _ _ (Blk.far hS4 (by simp; omega) _) (fun hS5 => ?_)
                        clear hK
                        refine wpAnyH_done (by kernel_rfl) ?_ _
                        refine NoPanic.normal ?_
                        go_wp2
                        go_roundw
                        case rel => exact ⟨j + 1, _, _, by omega, by go_num, by rw [HT.out]; exact HO2.out.2⟩
                        case measure => simp [intOf]; omega
                      · skip
                        simp only [List.getElem_toArray, List.getElem_cons_zero, List.getElem_cons_succ]
                        go_simp
                        refine (NM.out _).mono ?_
                        rintro e w2 ⟨rfl, hb2⟩
                        have HE := Lib.hid (HD.out.step hb2)
                        refine hK.out _ _ (blk_step hS hb2) (fun hS2 => ?_)
                        clear hK
                        refine wpAnyH_ready (rs := [1, 4]) (by kernel_rfl) (by simp) ?_
                        refine AllReadyH.cons rfl (fun K hK => ?_) (AllReadyH.cons rfl (fun K hK => ?_) AllReadyH.nil)
                        · skip
                          simp only [List.getElem_toArray, List.getElem_cons_zero, List.getElem_cons_succ]
                          have p4 : w2.cell? ⟨w3.heap.size, 4, none⟩ = some (.slice ta (trN (L.take j) (some t)).length tc) := HE.out.blk.cell 4
                          go_simp
                          refine hK.out _ _ hS2 (fun hS2b => ?_)
                          clear hK p4
                          refine wpAnyH_ready (rs := [4]) (by kernel_rfl) (by simp) ?_
                          refine AllReadyH.cons rfl (fun K hK => ?_) AllReadyH.nil
                          simp only [List.getElem_toArray, List.getElem_cons_zero, List.getElem_cons_succ]
                          go_simp
                          refine hK.out _ _ (Blk.alloc hS2b _) (fun hS3 => ?_)
                          clear hK
                          refine wpAnyH_ready (rs := [5]) (by kernel_rfl) (by simp) ?_
                          refine AllReadyH.cons rfl (fun K hK => ?_) AllReadyH.nil
                          simp only [List.getElem_toArray, List.getElem_cons_zero, List.getElem_cons_succ]
                          refine wp_append_own _ _ _ 22 rfl (w3.heap.size + 1) 9 s0 (.string ⟨#[]⟩) 1 16 Tryz.underlying22 hs si0 si1 si2 rfl (by decide) _ _ _ rfl (HE.out.tras.alloc _) ⟨w2.heap.size, 0, none⟩ 1 1 [.string (nmB x)] rfl rfl (new_one w2 _ _ _ rfl) (one_str _) (by unfold maxLen; omega) (by omega) (by have := HE.out.blk.lt; simp; omega) ?_
                          intro v' w' hown' hgrow _
                          obtain ⟨ta', tc', rfl⟩ := own_shape hown'
                          have hO2 := HE.out.tra HF.out hown' hgrow
                          have q4 : w'.cell? ⟨w3.heap.size, 4, none⟩ = some (.slice ta (trN (L.take j) (some t)).length tc) := hO2.1.cell 4
                          have g4 := hO2.1.frozen 4
                          have HO2 := Lib.hid hO2
                          refine hK.out _ _ (Blk.grown hS3 hgrow (blk_ne hS3 (HE.out.tras.alloc _) (by decide))) (fun hS4 => ?_)
                          clear hK hO2 hown' hgrow
                          refine wpAnyH_take (i := 6) (v := ?_) rfl (by kernel_rfl) (by kernel_rfl) (by kernel_rfl) (fun _ _ _ h => h) (Or.inl ⟨by rfl, ?_⟩) hS4 ?_
                          rotate_left
                          · intro wx hSx
                            go_simp
                            try with_reducible rfl
                          simp only [Act.put, List.getElem_toArray, List.getElem_cons_zero, List.getElem_cons_succ, List.setIfInBounds_toArray, List.set_cons_zero, List.set_cons_succ]
                          refine wpAnyH_ready (rs := [7]) (by kernel_rfl) (by simp) ?_
                          refine AllReadyH.cons rfl (fun K hK => ?_) AllReadyH.nil
                          simp only [List.getElem_toArray, List.getElem_cons_zero, List.getElem_cons_succ, Act.put]
                          go_simp
                          refine hK.out _ _ (Blk.far hS4 (by simp; omega) _) (fun hS5 => ?_)
                          clear hK
                          refine wpAnyH_done (by kernel_rfl) ?_ _
                          refine NoPanic.normal ?_
                          go_wp2
                          go_roundw
                          case rel => exact ⟨j + 1, _, _, by omega, by go_num, by rw [HT.out]; exact HO2.out.2⟩
                          case measure => simp [intOf]; omega
                        · skip
                          simp only [List.getElem_toArray, List.getElem_cons_zero, List.getElem_cons_succ]
                          go_simp
                          refine hK.out _ _ (Blk.alloc hS2 _) (fun hS3 => ?_)
                          clear hK
                          refine wpAnyH_ready (rs := [1]) (by kernel_rfl) (by simp) ?_
                          refine AllReadyH.cons rfl (fun K hK => ?_) AllReadyH.nil
                          simp only [List.getElem_toArray, List.getElem_cons_zero, List.getElem_cons_succ]
                          have p4 : (w2.alloc (.cells #[.string (nmB x)] 9)).cell? ⟨w3.heap.size, 4, none⟩ = some (.slice ta (trN (L.take j) (some t)).length tc) := (HE.out.alloc _).blk.cell 4
                          go_simp
                          refine hK.out _ _ hS3 (fun hS3b => ?_)
                          clear hK p4
                          refine wpAnyH_ready (rs := [5]) (by kernel_rfl) (by simp) ?_
                          refine AllReadyH.cons rfl (fun K hK => ?_) AllReadyH.nil
                          simp only [List.getElem_toArray, List.getElem_cons_zero, List.getElem_cons_succ]
                          refine wp_append_own _ _ _ 22 rfl (w3.heap.size + 1) 9 s0 (.string ⟨#[]⟩) 1 16 Tryz.underlying22 hs si0 si1 si2 rfl (by decide) _ _ _ rfl (HE.out.tras.alloc _) ⟨w2.heap.size, 0, none⟩ 1 1 [.string (nmB x)] rfl rfl (new_one w2 _ _ _ rfl) (one_str _) (by unfold maxLen; omega) (by omega) (by have := HE.out.blk.lt; simp; omega) ?_
                          intro v' w' hown' hgrow _
                          obtain ⟨ta', tc', rfl⟩ := own_shape hown'
                          have hO2 := HE.out.tra HF.out hown' hgrow
                          have q4 : w'.cell? ⟨w3.heap.size, 4, none⟩ = some (.slice ta (trN (L.take j) (some t)).length tc) := hO2.1.cell 4
                          have g4 := hO2.1.frozen 4
                          have HO2 := Lib.hid hO2
                          refine hK.out _ _ (Blk.grown hS3b hgrow (blk_ne hS3b (HE.out.tras.alloc _) (by decide))) (fun hS4 => ?_)
                          clear hK hO2 hown' hgrow
                          refine wpAnyH_take (i := 6) (v := ?_) rfl (by kernel_rfl) (by kernel_rfl) (by kernel_rfl) (fun _ _ _ h => h) (Or.inl ⟨by rfl, ?_⟩) hS4 ?_
                          rotate_left
                          · intro wx hSx
                            go_simp
                            try with_reducible rfl
                          simp only [Act.put, List.getElem_toArray, List.getElem_cons_zero, List.getElem_cons_succ, List.setIfInBounds_toArray, List.set_cons_zero, List.set_cons_succ]
                          refine wpAnyH_ready (rs := [7]) (by kernel_rfl) (by simp) ?_
                          refine AllReadyH.cons rfl (fun K hK => ?_) AllReadyH.nil
                          simp only [List.getElem_toArray, List.getElem_cons_zero, List.getElem_cons_succ, Act.put]
                          go_simp
                          refine hK.out _ _ (Blk.far hS4 (by simp; omega) _) (fun hS5 => ?_)
                          clear hK
                          refine wpAnyH_done (by kernel_rfl) ?_ _
                          refine NoPanic.normal ?_
                          go_wp2
                          go_roundw
                          case rel => exact ⟨j + 1, _, _, by omega, by go_num, by rw [HT.out]; exact HO2.out.2⟩
                          case measure => simp [intOf]; omega
                  · skip
                    by_cases hSR : isSR x = true
                    · rw [hSR] at SG
                      replace SG := Lib.hid SG
                      by_cases hge : tn ≤ xn
                      · have HF := Lib.hid (segF_some HNE.out hSR (by rw [← HTN.out, ← HXN.out]; exact hge))
                        clear hSR
                        go_wp2_with (first | (go_at_call 34; refine (SG.out _).mono ?_; rintro e w1 ⟨rfl, hb1⟩; have hO1 := (HO.out.alloc (.cells #[.int .u8 xk, .int .i64 xn] 25)).step hb1; have b0 : w1.cell? ⟨wr.heap.size, 0, none⟩ = some (.int .u8 xk) := (hb1.cell (by simp)).trans (by simp); have b1 : w1.cell? ⟨wr.heap.size, 1, none⟩ = some (.int .i64 xn) := (hb1.cell (by simp)).trans (by simp); have po0 : w1.cell? ⟨w3.heap.size, 0, none⟩ = some (.int .u8 tk) := (by rw [HTK.out]; exact hO1.blk.cell 0); have po1 : w1.cell? ⟨w3.heap.size, 1, none⟩ = some (.int .i64 tn) := (by rw [HTN.out]; exact hO1.blk.cell 1); have po2 : w1.cell? ⟨w3.heap.size, 2, none⟩ = some (.bool true) := hO1.blk.cell 2; have po3 : w1.cell? ⟨w3.heap.size, 3, none⟩ = some (.slice va (segsL (L.take j) (some t)).length vc) := hO1.blk.cell 3; have po4 : w1.cell? ⟨w3.heap.size, 4, none⟩ = some (.slice ta (trN (L.take j) (some t)).length tc) := hO1.blk.cell 4; have hs1 := hb1.size; have HO1 := Lib.hid hO1; clear hO1) | (at_builtin; refine wpList_append_own _ rfl _ _ 26 rfl (w3.heap.size + 1) 25 i0 (.agg #[.int .u8 0, .int .i64 0]) 2 16 Tryz.underlying26 hi hz0 hz1 hz2 rfl (by decide) _ _ _ rfl (HO1.out.segs.alloc _) ⟨w1.heap.size, 0, none⟩ 1 1 [.int .u8 xk, .int .i64 xn] rfl rfl (new_two w1 _ _ _ _ rfl) (one_kn xk xn) (by unfold maxLen; omega) (by omega) (by have := HO1.out.blk.lt; simp; omega) ?_; intro v' w' hown' hgrow _; obtain ⟨va', vc', rfl⟩ := own_shape hown'; have hO2 := HO1.out.seg HF.out HXK.out HXN.out hown' hgrow; have q3 : w'.cell? ⟨w3.heap.size, 3, none⟩ = some (.slice va (segsL (L.take j) (some t)).length vc) := hO2.1.cell 3; have g3 := hO2.1.frozen 3; have HO2 := Lib.hid hO2; clear hO2 hown' hgrow))
                        go_roundw
                        case rel => exact ⟨j + 1, _, _, by omega, by go_num, by rw [HT.out]; exact HO2.out.2⟩
                        case measure => simp [intOf]; omega
                      · have HF := Lib.hid (traF_lt HNE.out (by rw [← HTN.out, ← HXN.out]; exact hge))
                        clear hSR
                        go_wp2_with ((go_at_call 34; refine (SG.out _).mono ?_; rintro e w1 ⟨rfl, hb1⟩; have hO1 := (HO.out.alloc (.cells #[.int .u8 xk, .int .i64 xn] 25)).step hb1; have b0 : w1.cell? ⟨wr.heap.size, 0, none⟩ = some (.int .u8 xk) := (hb1.cell (by simp)).trans (by simp); have b1 : w1.cell? ⟨wr.heap.size, 1, none⟩ = some (.int .i64 xn) := (hb1.cell (by simp)).trans (by simp); have po0 : w1.cell? ⟨w3.heap.size, 0, none⟩ = some (.int .u8 tk) := (by rw [HTK.out]; exact hO1.blk.cell 0); have po1 : w1.cell? ⟨w3.heap.size, 1, none⟩ = some (.int .i64 tn) := (by rw [HTN.out]; exact hO1.blk.cell 1); have po2 : w1.cell? ⟨w3.heap.size, 2, none⟩ = some (.bool true) := hO1.blk.cell 2; have po3 : w1.cell? ⟨w3.heap.size, 3, none⟩ = some (.slice va (segsL (L.take j) (some t)).length vc) := hO1.blk.cell 3; have po4 : w1.cell? ⟨w3.heap.size, 4, none⟩ = some (.slice ta (trN (L.take j) (some t)).length tc) := hO1.blk.cell 4; have hBX : Blk w1 wr.heap.size 25 #[.int .u8 xk, .int .i64 xn] := blk_step (Blk.new _ _ _) hb1; have hs1 := hb1.size; have HO1 := Lib.hid hO1; clear hO1))
                        refine wp_region_noPanic ?_
                        refine wp_region_held_drew (S := fun w' => Blk w' wr.heap.size 25 #[.int .u8 xk, .int .i64 xn]) (by kernel_rfl) hBX (fun hS => ?_)
                        obtain ⟨wd, hwd⟩ : ∃ wd, wd = w1.drew := ⟨_, rfl⟩
                        have HD := Lib.hid (show Out w3 wd (some t) (L.take j) _ _ by rw [hwd]; exact HO1.out.drew)
                        rw [← hwd] at hS ⊢
                        clear hwd
                        refine wpAnyH_take (i := 0) (v := ?_) rfl (by kernel_rfl) (by kernel_rfl) (by kernel_rfl) (fun _ _ _ h => h) (Or.inl ⟨by rfl, ?_⟩) hS ?_
                        rotate_left
                        · intro wx hSx
                          go_simp
                          try with_reducible rfl
                        simp only [Act.put, List.getElem_toArray, List.getElem_cons_zero, List.setIfInBounds_toArray, List.set_cons_zero, List.set_cons_succ]
                        refine wpAnyH_take (i := 2) (v := ?_) rfl (by kernel_rfl) (by kernel_rfl) (by kernel_rfl) (fun _ _ _ h => h) (Or.inl ⟨by rfl, ?_⟩) hS ?_
                        rotate_left
                        · intro wx hSx
                          have x0 : wx.cell? ⟨wr.heap.size, 0, none⟩ = some (.int .u8 xk) := Blk.cell hSx 0
                          have x1 : wx.cell? ⟨wr.heap.size, 1, none⟩ = some (.int .i64 xn) := Blk.cell hSx 1
                          go_simp
                          try with_reducible rfl
                        simp only [Act.put, List.getElem_toArray, List.getElem_cons_zero, List.getElem_cons_succ, List.setIfInBounds_toArray, List.set_cons_zero, List.set_cons_succ]
                        refine wpAnyH_ready (rs := [1, 3]) (by kernel_rfl) (by simp) ?_
                        refine AllReadyH.cons rfl (fun K hK => ?_) (AllReadyH.cons rfl (fun K hK => ?_) AllReadyH.nil)
                        · skip
                          simp only [List.getElem_toArray, List.getElem_cons_zero, List.getElem_cons_succ]
                          have p4 : wd.cell? ⟨w3.heap.size, 4, none⟩ = some (.slice ta (trN (L.take j) (some t)).length tc) := HD.out.blk.cell 4
                          go_simp
                          refine hK.out _ _ hS (fun hS1 => ?_)
                          clear hK p4
                          refine wpAnyH_ready (rs := [3]) (by kernel_rfl) (by simp) ?_
                          refine AllReadyH.cons rfl (fun K hK => ?_) AllReadyH.nil
                          simp only [List.getElem_toArray, List.getElem_cons_zero, List.getElem_cons_succ]
                          go_simp
                          refine (NM.out _).mono ?_
                          rintro e w2 ⟨rfl, hb2⟩
                          have HE := Lib.hid (HD.out.step hb2)
                          refine hK.out _ _ (blk_step hS1 hb2) (fun hS2 => ?_)
                          clear hK
                          refine wpAnyH_ready (rs := [4]) (by kernel_rfl) (by simp) ?_
                          refine AllReadyH.cons rfl (fun K hK => ?_) AllReadyH.nil
                          simp only [List.getElem_toArray, List.getElem_cons_zero, List.getElem_cons_succ]
                          go_simp
                          refine hK.out _ _ (Blk.alloc hS2 _) (fun hS3 => ?_)
                          clear hK
                          refine wpAnyH_ready (rs := [5]) (by kernel_rfl) (by simp) ?_
                          refine AllReadyH.cons rfl (fun K hK => ?_) AllReadyH.nil
                          simp only [List.getElem_toArray, List.getElem_cons_zero, List.getElem_cons_succ]
                          refine wp_append_own _ _ _ 22 rfl (w3.heap.size + 1) 9 s0 (.string ⟨#[]⟩) 1 16 Tryz.underlying22 hs si0 si1 si2 rfl (by decide) _ _ _ rfl (HE.out.tras.alloc _) ⟨w2.heap.size, 0, none⟩ 1 1 [.string (nmB x)] rfl rfl (new_one w2 _ _ _ rfl) (one_str _) (by unfold maxLen; omega) (by omega) (by have := HE.out.blk.lt; simp; omega) ?_
                          intro v' w' hown' hgrow _
                          obtain ⟨ta', tc', rfl⟩ := own_shape hown'
                          have hO2 := HE.out.tra HF.out hown' hgrow
                          have q4 : w'.cell? ⟨w3.heap.size, 4, none⟩ = some (.slice ta (trN (L.take j) (some t)).length tc) := hO2.1.cell 4
                          have g4 := hO2.1.frozen 4
                          have HO2 := Lib.hid hO2
                          refine hK.out _ _ (Blk.grown hS3 hgrow (blk_ne hS3 (HE.out.tras.alloc _) (by decide))) (fun hS4 => ?_)
                          clear hK hO2 hown' hgrow
                          refine wpAnyH_take (i := 6) (v := ?_) rfl (by kernel_rfl) (by kernel_rfl) (by kernel_rfl) (fun _ _ _ h => h) (Or.inl ⟨by rfl, ?_⟩) hS4 ?_
                          rotate_left
                          · intro wx hSx
                            go_simp
                            try with_reducible rfl
                          simp only [Act.put, List.getElem_toArray, List.getElem_cons_zero, List.getElem_cons_succ, List.setIfInBounds_toArray, List.set_cons_zero, List.set_cons_succ]
                          refine wpAnyH_ready (rs := [7]) (by kernel_rfl) (by simp) ?_
                          refine AllReadyH.cons rfl (fun K hK => ?_) AllReadyH.nil
                          simp only [List.getElem_toArray, List.getElem_cons_zero, List.getElem_cons_succ, Act.put]
                          go_simp
                          refine hK.out _ _ (Blk.far hS4 (by simp; omega) _) (fun hS5 => ?_)
                          clear hK
                          refine wpAnyH_done (by kernel_rfl) ?_ _
                          refine NoPanic.normal ?_
                          go_wp2
                          go_roundw
                          case rel => exact ⟨j + 1, _, _, by omega, by go_num, by rw [HT.out]; exact HO2.out.2⟩
                          case measure => simp [intOf]; omega
                        · skip
                          simp only [List.getElem_toArray, List.getElem_cons_zero, List.getElem_cons_succ]
                          go_simp
                          refine (NM.out _).mono ?_
                          rintro e w2 ⟨rfl, hb2⟩
                          have HE := Lib.hid (HD.out.step hb2)
                          refine hK.out _ _ (blk_step hS hb2) (fun hS2 => ?_)
                          clear hK
                          refine wpAnyH_ready (rs := [1, 4]) (by kernel_rfl) (by simp) ?_
                          refine AllReadyH.cons rfl (fun K hK => ?_) (AllReadyH.cons rfl (fun K hK => ?_) AllReadyH.nil)
                          · skip
                            simp only [List.getElem_toArray, List.getElem_cons_zero, List.getElem_cons_succ]
                            have p4 : w2.cell? ⟨w3.heap.size, 4, none⟩ = some (.slice ta (trN (L.take j) (some t)).length tc) := HE.out.blk.cell 4
                            go_simp
                            refine hK.out _ _ hS2 (fun hS2b => ?_)
                            clear hK p4
                            refine wpAnyH_ready (rs := [4]) (by kernel_rfl) (by simp) ?_
                            refine AllReadyH.cons rfl (fun K hK => ?_) AllReadyH.nil
                            simp only [List.getElem_toArray, List.getElem_cons_zero, List.getElem_cons_succ]
                            go_simp
                            refine hK.out _ _ (Blk.alloc hS2b _) (fun hS3 => ?_)
                            clear hK
                            refine wpAnyH_ready (rs := [5]) (by kernel_rfl) (by simp) ?_
                            refine AllReadyH.cons rfl (fun K hK => ?_) AllReadyH.nil
                            simp only [List.getElem_toArray, List.getElem_cons_zero, List.getElem_cons_succ]
                            refine wp_append_own _ _ _ 22 rfl (w3.heap.size + 1) 9 s0 (.string ⟨#[]⟩) 1 16 Tryz.underlying22 hs si0 si1 si2 rfl (by decide) _ _ _ rfl (HE.out.tras.alloc _) ⟨w2.heap.size, 0, none⟩ 1 1 [.string (nmB x)] rfl rfl (new_one w2 _ _ _ rfl) (one_str _) (by unfold maxLen; omega) (by omega) (by have := HE.out.blk.lt; simp; omega) ?_
                            intro v' w' hown' hgrow _
                            obtain ⟨ta', tc', rfl⟩ := own_shape hown'
                            have hO2 := HE.out.tra HF.out hown' hgrow
                            have q4 : w'.cell? ⟨w3.heap.size, 4, none⟩ = some (.slice ta (trN (L.take j) (some t)).length tc) := hO2.1.cell 4
                            have g4 := hO2.1.frozen 4
                            have HO2 := Lib.hid hO2
                            refine hK.out _ _ (Blk.grown hS3 hgrow (blk_ne hS3 (HE.out.tras.alloc _) (by decide))) (fun hS4 => ?_)
                            clear hK hO2 hown' hgrow
                            refine wpAnyH_take (i := 6) (v := ?_) rfl (by kernel_rfl) (by kernel_rfl) (by kernel_rfl) (fun _ _ _ h => h) (Or.inl ⟨by rfl, ?_⟩) hS4 ?_
                            rotate_left
                            · intro wx hSx
                              go_simp
                              try with_reducible rfl
                            simp only [Act.put, List.getElem_toArray, List.getElem_cons_zero, List.getElem_cons_succ, List.setIfInBounds_toArray, List.set_cons_zero, List.set_cons_succ]
                            refine wpAnyH_ready (rs := [7]) (by kernel_rfl) (by simp) ?_
                            refine AllReadyH.cons rfl (fun K hK => ?_) AllReadyH.nil
                            simp only [List.getElem_toArray, List.getElem_cons_zero, List.getElem_cons_succ, Act.put]
                            go_simp
                            refine hK.out _ _ (Blk.far hS4 (by simp; omega) _) (fun hS5 => ?_)
                            clear hK
                            refine wpAnyH_done (by kernel_rfl) ?_ _
                            refine NoPanic.normal ?_
                            go_wp2
                            go_roundw
                            case rel => exact ⟨j + 1, _, _, by omega, by go_num, by rw [HT.out]; exact HO2.out.2⟩
                            case measure => simp [intOf]; omega
                          · skip
                            simp only [List.getElem_toArray, List.getElem_cons_zero, List.getElem_cons_succ]
                            go_simp
                            refine hK.out _ _ (Blk.alloc hS2 _) (fun hS3 => ?_)
                            clear hK
                            refine wpAnyH_ready (rs := [1]) (by kernel_rfl) (by simp) ?_
                            refine AllReadyH.cons rfl (fun K hK => ?_) AllReadyH.nil
                            simp only [List.getElem_toArray, List.getElem_cons_zero, List.getElem_cons_succ]
                            have p4 : (w2.alloc (.cells #[.string (nmB x)] 9)).cell? ⟨w3.heap.size, 4, none⟩ = some (.slice ta (trN (L.take j) (some t)).length tc) := (HE.out.alloc _).blk.cell 4
                            go_simp
                            refine hK.out _ _ hS3 (fun hS3b => ?_)
                            clear hK p4
                            refine wpAnyH_ready (rs := [5]) (by kernel_rfl) (by simp) ?_
                            refine AllReadyH.cons rfl (fun K hK => ?_) AllReadyH.nil
                            simp only [List.getElem_toArray, List.getElem_cons_zero, List.getElem_cons_succ]
                            refine wp_append_own _ _ _ 22 rfl (w3.heap.size + 1) 9 s0 (.string ⟨#[]⟩) 1 16 Tryz.underlying22 hs si0 si1 si2 rfl (by decide) _ _ _ rfl (HE.out.tras.alloc _) ⟨w2.heap.size, 0, none⟩ 1 1 [.string (nmB x)] rfl rfl (new_one w2 _ _ _ rfl) (one_str _) (by unfold maxLen; omega) (by omega) (by have := HE.out.blk.lt; simp; omega) ?_
                            intro v' w' hown' hgrow _
                            obtain ⟨ta', tc', rfl⟩ := own_shape hown'
                            have hO2 := HE.out.tra HF.out hown' hgrow
                            have q4 : w'.cell? ⟨w3.heap.size, 4, none⟩ = some (.slice ta (trN (L.take j) (some t)).length tc) := hO2.1.cell 4
                            have g4 := hO2.1.frozen 4
                            have HO2 := Lib.hid hO2
                            refine hK.out _ _ (Blk.grown hS3b hgrow (blk_ne hS3b (HE.out.tras.alloc _) (by decide))) (fun hS4 => ?_)
                            clear hK hO2 hown' hgrow
                            refine wpAnyH_take (i := 6) (v := ?_) rfl (by kernel_rfl) (by kernel_rfl) (by kernel_rfl) (fun _ _ _ h => h) (Or.inl ⟨by rfl, ?_⟩) hS4 ?_
                            rotate_left
                            · intro wx hSx
                              go_simp
                              try with_reducible rfl
                            simp only [Act.put, List.getElem_toArray, List.getElem_cons_zero, List.getElem_cons_succ, List.setIfInBounds_toArray, List.set_cons_zero, List.set_cons_succ]
                            refine wpAnyH_ready (rs := [7]) (by kernel_rfl) (by simp) ?_
                            refine AllReadyH.cons rfl (fun K hK => ?_) AllReadyH.nil
                            simp only [List.getElem_toArray, List.getElem_cons_zero, List.getElem_cons_succ, Act.put]
                            go_simp
                            refine hK.out _ _ (Blk.far hS4 (by simp; omega) _) (fun hS5 => ?_)
                            clear hK
                            refine wpAnyH_done (by kernel_rfl) ?_ _
                            refine NoPanic.normal ?_
                            go_wp2
                            go_roundw
                            case rel => exact ⟨j + 1, _, _, by omega, by go_num, by rw [HT.out]; exact HO2.out.2⟩
                            case measure => simp [intOf]; omega
                    · have hSR' : isSR x = false := by simpa using hSR
                      have HF := Lib.hid (traF_some HNE.out hSR')
                      rw [hSR'] at SG
                      replace SG := Lib.hid SG
                      clear hSR hSR'
                      go_wp2_with ((go_at_call 34; refine (SG.out _).mono ?_; rintro e w1 ⟨rfl, hb1⟩; have hO1 := (HO.out.alloc (.cells #[.int .u8 xk, .int .i64 xn] 25)).step hb1; have b0 : w1.cell? ⟨wr.heap.size, 0, none⟩ = some (.int .u8 xk) := (hb1.cell (by simp)).trans (by simp); have b1 : w1.cell? ⟨wr.heap.size, 1, none⟩ = some (.int .i64 xn) := (hb1.cell (by simp)).trans (by simp); have po0 : w1.cell? ⟨w3.heap.size, 0, none⟩ = some (.int .u8 tk) := (by rw [HTK.out]; exact hO1.blk.cell 0); have po1 : w1.cell? ⟨w3.heap.size, 1, none⟩ = some (.int .i64 tn) := (by rw [HTN.out]; exact hO1.blk.cell 1); have po2 : w1.cell? ⟨w3.heap.size, 2, none⟩ = some (.bool true) := hO1.blk.cell 2; have po3 : w1.cell? ⟨w3.heap.size, 3, none⟩ = some (.slice va (segsL (L.take j) (some t)).length vc) := hO1.blk.cell 3; have po4 : w1.cell? ⟨w3.heap.size, 4, none⟩ = some (.slice ta (trN (L.take j) (some t)).length tc) := hO1.blk.cell 4; have hBX : Blk w1 wr.heap.size 25 #[.int .u8 xk, .int .i64 xn] := blk_step (Blk.new _ _ _) hb1; have hs1 := hb1.size; have HO1 := Lib.hid hO1; clear hO1))
                      refine wp_region_noPanic ?_
                      refine wp_region_held_drew (S := fun w' => Blk w' wr.heap.size 25 #[.int .u8 xk, .int .i64 xn]) (by kernel_rfl) hBX (fun hS => ?_)
                      obtain ⟨wd, hwd⟩ : ∃ wd, wd = w1.drew := ⟨_, rfl⟩
                      have HD := Lib.hid (show Out w3 wd (some t) (L.take j) _ _ by rw [hwd]; exact HO1.out.drew)
                      rw [← hwd] at hS ⊢
                      clear hwd
                      refine wpAnyH_take (i := 0) (v := ?_) rfl (by kernel_rfl) (by kernel_rfl) (by kernel_rfl) (fun _ _ _ h => h) (Or.inl ⟨by rfl, ?_⟩) hS ?_
                      rotate_left
                      · intro wx hSx
                        go_simp
                        try with_reducible rfl
                      simp only [Act.put, List.getElem_toArray, List.getElem_cons_zero, List.setIfInBounds_toArray, List.set_cons_zero, List.set_cons_succ]
                      refine wpAnyH_take (i := 2) (v := ?_) rfl (by kernel_rfl) (by kernel_rfl) (by kernel_rfl) (fun _ _ _ h => h) (Or.inl ⟨by rfl, ?_⟩) hS ?_
                      rotate_left
                      · intro wx hSx
                        have x0 : wx.cell? ⟨wr.heap.size, 0, none⟩ = some (.int .u8 xk) := Blk.cell hSx 0
                        have x1 : wx.cell? ⟨wr.heap.size, 1, none⟩ = some (.int .i64 xn) := Blk.cell hSx 1
                        go_simp
                        try with_reducible rfl
                      simp only [Act.put, List.getElem_toArray, List.getElem_cons_zero, List.getElem_cons_succ, List.setIfInBounds_toArray, List.set_cons_zero, List.set_cons_succ]
                      refine wpAnyH_ready (rs := [1, 3]) (by kernel_rfl) (by simp) ?_
                      refine AllReadyH.cons rfl (fun K hK => ?_) (AllReadyH.cons rfl (fun K hK => ?_) AllReadyH.nil)
                      · skip
                        simp only [List.getElem_toArray, List.getElem_cons_zero, List.getElem_cons_succ]
                        have p4 : wd.cell? ⟨w3.heap.size, 4, none⟩ = some (.slice ta (trN (L.take j) (some t)).length tc) := HD.out.blk.cell 4
                        go_simp
                        refine hK.out _ _ hS (fun hS1 => ?_)
                        clear hK p4
                        refine wpAnyH_ready (rs := [3]) (by kernel_rfl) (by simp) ?_
                        refine AllReadyH.cons rfl (fun K hK => ?_) AllReadyH.nil
                        simp only [List.getElem_toArray, List.getElem_cons_zero, List.getElem_cons_succ]
                        go_simp
                        refine (NM.out _).mono ?_
                        rintro e w2 ⟨rfl, hb2⟩
                        have HE := Lib.hid (HD.out.step hb2)
                        refine hK.out _ _ (blk_step hS1 hb2) (fun hS2 => ?_)
                        clear hK
                        refine wpAnyH_ready (rs := [4]) (by kernel_rfl) (by simp) ?_
                        refine AllReadyH.cons rfl (fun K hK => ?_) AllReadyH.nil
                        simp only [List.getElem_toArray, List.getElem_cons_zero, List.getElem_cons_succ]
                        go_simp
                        refine hK.out _ _ (Blk.alloc hS2 _) (fun hS3 => ?_)
                        clear hK
                        refine wpAnyH_ready (rs := [5]) (by kernel_rfl) (by simp) ?_
                        refine AllReadyH.cons rfl (fun K hK => ?_) AllReadyH.nil
                        simp only [List.getElem_toArray, List.getElem_cons_zero, List.getElem_cons_succ]
                        refine wp_append_own _ _ _ 22 rfl (w3.heap.size + 1) 9 s0 (.string ⟨#[]⟩) 1 16 Tryz.underlying22 hs si0 si1 si2 rfl (by decide) _ _ _ rfl (HE.out.tras.alloc _) ⟨w2.heap.size, 0, none⟩ 1 1 [.string (nmB x)] rfl rfl (new_one w2 _ _ _ rfl) (one_str _) (by unfold maxLen; omega) (by omega) (by have := HE.out.blk.lt; simp; omega) ?_
                        intro v' w' hown' hgrow _
                        obtain ⟨ta', tc', rfl⟩ := own_shape hown'
                        have hO2 := HE.out.tra HF.out hown' hgrow
                        have q4 : w'.cell? ⟨w3.heap.size, 4, none⟩ = some (.slice ta (trN (L.take j) (some t)).length tc) := hO2.1.cell 4
                        have g4 := hO2.1.frozen 4
                        have HO2 := Lib.hid hO2
                        refine hK.out _ _ (Blk.grown hS3 hgrow (blk_ne hS3 (HE.out.tras.alloc _) (by decide))) (fun hS4 => ?_)
                        clear hK hO2 hown' hgrow
                        refine wpAnyH_take (i := 6) (v := ?_) rfl (by kernel_rfl) (by kernel_rfl) (by kernel_rfl) (fun _ _ _ h => h) (Or.inl ⟨by rfl, ?_⟩) hS4 ?_
                        rotate_left
                        · intro wx hSx
                          go_simp
                          try with_reducible rfl
                        simp only [Act.put, List.getElem_toArray, List.getElem_cons_zero, List.getElem_cons_succ, List.setIfInBounds_toArray, List.set_cons_zero, List.set_cons_succ]
                        refine wpAnyH_ready (rs := [7]) (by kernel_rfl) (by simp) ?_
                        refine AllReadyH.cons rfl (fun K hK => ?_) AllReadyH.nil
                        simp only [List.getElem_toArray, List.getElem_cons_zero, List.getElem_cons_succ, Act.put]
                        go_simp
                        refine hK.out _ _ (Blk.far hS4 (by simp; omega) _) (fun hS5 => ?_)
                        clear hK
                        refine wpAnyH_done (by kernel_rfl) ?_ _
                        refine NoPanic.normal ?_
                        go_wp2
                        go_roundw
                        case rel => exact ⟨j + 1, _, _, by omega, by go_num, by rw [HT.out]; exact HO2.out.2⟩
                        case measure => simp [intOf]; omega
                      · skip
                        simp only [List.getElem_toArray, List.getElem_cons_zero, List.getElem_cons_succ]
                        go_simp
                        refine (NM.out _).mono ?_
                        rintro e w2 ⟨rfl, hb2⟩
                        have HE := Lib.hid (HD.out.step hb2)
                        refine hK.out _ _ (blk_step hS hb2) (fun hS2 => ?_)
                        clear hK
                        refine wpAnyH_ready (rs := [1, 4]) (by kernel_rfl) (by simp) ?_
                        refine AllReadyH.cons rfl (fun K hK => ?_) (AllReadyH.cons rfl (fun K hK => ?_) AllReadyH.nil)
                        · skip
                          simp only [List.getElem_toArray, List.getElem_cons_zero, List.getElem_cons_succ]
                          have p4 : w2.cell? ⟨w3.heap.size, 4, none⟩ = some (.slice ta (trN (L.take j) (some t)).length tc) := HE.out.blk.cell 4
                          go_simp
                          refine hK.out _ _ hS2 (fun hS2b => ?_)
                          clear hK p4
                          refine wpAnyH_ready (rs := [4]) (by kernel_rfl) (by simp) ?_
                          refine AllReadyH.cons rfl (fun K hK => ?_) AllReadyH.nil
                          simp only [List.getElem_toArray, List.getElem_cons_zero, List.getElem_cons_succ]
                          go_simp
                          refine hK.out _ _ (Blk.alloc hS2b _) (fun hS3 => ?_)
                          clear hK
                          refine wpAnyH_ready (rs := [5]) (by kernel_rfl) (by simp) ?_
                          refine AllReadyH.cons rfl (fun K hK => ?_) AllReadyH.nil
                          simp only [List.getElem_toArray, List.getElem_cons_zero, List.getElem_cons_succ]
                          refine wp_append_own _ _ _ 22 rfl (w3.heap.size + 1) 9 s0 (.string ⟨#[]⟩) 1 16 Tryz.underlying22 hs si0 si1 si2 rfl (by decide) _ _ _ rfl (HE.out.tras.alloc _) ⟨w2.heap.size, 0, none⟩ 1 1 [.string (nmB x)] rfl rfl (new_one w2 _ _ _ rfl) (one_str _) (by unfold maxLen; omega) (by omega) (by have := HE.out.blk.lt; simp; omega) ?_
                          intro v' w' hown' hgrow _
                          obtain ⟨ta', tc', rfl⟩ := own_shape hown'
                          have hO2 := HE.out.tra HF.out hown' hgrow
                          have q4 : w'.cell? ⟨w3.heap.size, 4, none⟩ = some (.slice ta (trN (L.take j) (some t)).length tc) := hO2.1.cell 4
                          have g4 := hO2.1.frozen 4
                          have HO2 := Lib.hid hO2
                          refine hK.out _ _ (Blk.grown hS3 hgrow (blk_ne hS3 (HE.out.tras.alloc _) (by decide))) (fun hS4 => ?_)
                          clear hK hO2 hown' hgrow
                          refine wpAnyH_take (i := 6) (v := ?_) rfl (by kernel_rfl) (by kernel_rfl) (by kernel_rfl) (fun _ _ _ h => h) (Or.inl ⟨by rfl, ?_⟩) hS4 ?_
                          rotate_left
                          · intro wx hSx
                            go_simp
                            try with_reducible rfl
                          simp only [Act.put, List.getElem_toArray, List.getElem_cons_zero, List.getElem_cons_succ, List.setIfInBounds_toArray, List.set_cons_zero, List.set_cons_succ]
                          refine wpAnyH_ready (rs := [7]) (by kernel_rfl) (by simp) ?_
                          refine AllReadyH.cons rfl (fun K hK => ?_) AllReadyH.nil
                          simp only [List.getElem_toArray, List.getElem_cons_zero, List.getElem_cons_succ, Act.put]
                          go_simp
                          refine hK.out _ _ (Blk.far hS4 (by simp; omega) _) (fun hS5 => ?_)
                          clear hK
                          refine wpAnyH_done (by kernel_rfl) ?_ _
                          refine NoPanic.normal ?_
                          go_wp2
                          go_roundw
                          case rel => exact ⟨j + 1, _, _, by omega, by go_num, by rw [HT.out]; exact HO2.out.2⟩
                          case measure => simp [intOf]; omega
                        · skip
                          simp only [List.getElem_toArray, List.getElem_cons_zero, List.getElem_cons_succ]
                          go_simp
                          refine hK.out _ _ (Blk.alloc hS2 _) (fun hS3 => ?_)
                          clear hK
                          refine wpAnyH_ready (rs := [1]) (by kernel_rfl) (by simp) ?_
                          refine AllReadyH.cons rfl (fun K hK => ?_) AllReadyH.nil
                          simp only [List.getElem_toArray, List.getElem_cons_zero, List.getElem_cons_succ]
                          have p4 : (w2.alloc (.cells #[.string (nmB x)] 9)).cell? ⟨w3.heap.size, 4, none⟩ = some (.slice ta (trN (L.take j) (some t)).length tc) := (HE.out.alloc _).blk.cell 4
                          go_simp
                          refine hK.out _ _ hS3 (fun hS3b => ?_)
                          clear hK p4
                          refine wpAnyH_ready (rs := [5]) (by kernel_rfl) (by simp) ?_
                          refine AllReadyH.cons rfl (fun K hK => ?_) AllReadyH.nil
                          simp only [List.getElem_toArray, List.getElem_cons_zero, List.getElem_cons_succ]
                          refine wp_append_own _ _ _ 22 rfl (w3.heap.size + 1) 9 s0 (.string ⟨#[]⟩) 1 16 Tryz.underlying22 hs si0 si1 si2 rfl (by decide) _ _ _ rfl (HE.out.tras.alloc _) ⟨w2.heap.size, 0, none⟩ 1 1 [.string (nmB x)] rfl rfl (new_one w2 _ _ _ rfl) (one_str _) (by unfold maxLen; omega) (by omega) (by have := HE.out.blk.lt; simp; omega) ?_
                          intro v' w' hown' hgrow _
                          obtain ⟨ta', tc', rfl⟩ := own_shape hown'
                          have hO2 := HE.out.tra HF.out hown' hgrow
                          have q4 : w'.cell? ⟨w3.heap.size, 4, none⟩ = some (.slice ta (trN (L.take j) (some t)).length tc) := hO2.1.cell 4
                          have g4 := hO2.1.frozen 4
                          have HO2 := Lib.hid hO2
                          refine hK.out _ _ (Blk.grown hS3b hgrow (blk_ne hS3b (HE.out.tras.alloc _) (by decide))) (fun hS4 => ?_)
                          clear hK hO2 hown' hgrow
                          refine wpAnyH_take (i := 6) (v := ?_) rfl (by kernel_rfl) (by kernel_rfl) (by kernel_rfl) (fun _ _ _ h => h) (Or.inl ⟨by rfl, ?_⟩) hS4 ?_
                          rotate_left
                          · intro wx hSx
                            go_simp
                            try with_reducible rfl
                          simp only [Act.put, List.getElem_toArray, List.getElem_cons_zero, List.getElem_cons_succ, List.setIfInBounds_toArray, List.set_cons_zero, List.set_cons_succ]
                          refine wpAnyH_ready (rs := [7]) (by kernel_rfl) (by simp) ?_
                          refine AllReadyH.cons rfl (fun K hK => ?_) AllReadyH.nil
                          simp only [List.getElem_toArray, List.getElem_cons_zero, List.getElem_cons_succ, Act.put]
                          go_simp
                          refine hK.out _ _ (Blk.far hS4 (by simp; omega) _) (fun hS5 => ?_)
                          clear hK
                          refine wpAnyH_done (by kernel_rfl) ?_ _
                          refine NoPanic.normal ?_
                          go_wp2
                          go_roundw
                          case rel => exact ⟨j + 1, _, _, by omega, by go_num, by rw [HT.out]; exact HO2.out.2⟩
                          case measure => simp [intOf]; omega
            · obtain rfl : m = j := by omega
              rw [show L.take m = L by rw [HM.out, List.take_length]] at hO
              obtain ⟨va, vc, rfl⟩ := own_shape hO.segs
              obtain ⟨ta, tc, rfl⟩ := own_shape hO.tras
              have o4 : wr.cell? ⟨w3.heap.size, 4, none⟩ = some (.slice ta (trN L o).length tc) := hO.blk.cell 4
              have HO := Lib.hid hO
              have htl : (trN L o).length ≤ 1000 := trn_le L o (by rw [← HM.out]; exact hLn)
              have hw3 : W.heap.size ≤ w3.heap.size := HB3.out.size
              have BR4 := Lib.hid (blk_step (blk_step BR.out HB3.out) hO.below)
              have HBw := Lib.hid (keepW HBW.out HB3.out |>.trans (hO.below.mono (by omega)))
              clear hO
              go_wp2_with (go_at_call 35; refine (sort_strs HO.out.tras htl).mono ?_; rintro e w5 ⟨rfl, ht5, hg5⟩; have BO5 := Blk.grown HO.out.blk hg5 (own_far HO.out.tras); have BR5 := Blk.grown BR4.out hg5 (fun e => by have := (HO.out.tras.lt _ e.symm).1; omega); have o0 : w5.cell? ⟨w3.heap.size, 0, none⟩ = some (.int .u8 ((o.getD zS).k.toNat : Nat)) := BO5.cell 0; have o1 : w5.cell? ⟨w3.heap.size, 1, none⟩ = some (.int .i64 (o.getD zS).n) := BO5.cell 1; have o2 : w5.cell? ⟨w3.heap.size, 2, none⟩ = some (.bool o.isSome) := BO5.cell 2; have o3 : w5.cell? ⟨w3.heap.size, 3, none⟩ = some (.slice va (segsL L o).length vc) := BO5.cell 3; have o4 : w5.cell? ⟨w3.heap.size, 4, none⟩ = some (.slice ta (trN L o).length tc) := BO5.cell 4; have r0 : w5.cell? ⟨w.heap.size, 0, none⟩ = some (.int .u8 0) := BR5.cell 0; have r1 : w5.cell? ⟨w.heap.size, 1, none⟩ = some (.int .i64 0) := BR5.cell 1; have r2 : w5.cell? ⟨w.heap.size, 2, none⟩ = some (.bool false) := BR5.cell 2; have r3 : w5.cell? ⟨w.heap.size, 3, none⟩ = some (.slice none 0 0) := BR5.cell 3; have r4 : w5.cell? ⟨w.heap.size, 4, none⟩ = some (.slice none 0 0) := BR5.cell 4; have f0 := BR5.frozen 0; have f1 := BR5.frozen 1; have f2 := BR5.frozen 2; have f3 := BR5.frozen 3; have f4 := BR5.frozen 4; have HR5 := Lib.hid BR5; have HT5 := Lib.hid ht5; have HG5 := Lib.hid hg5; clear BO5 BR5 ht5 hg5)
              refine bodyPost_ret (results_row1 (p := 2) rfl _ _ _ _ _ _ _ rfl (five_set HR5.out o _ _) Tryz.underlying28 rfl info_lay) rfl ?_
              have hb5 : Below w.heap.size w w5 := Below.grown HBw.out HG5.out HBw.out.size (fun k hk => by have := (HO.out.tras.lt k hk).1; omega)
              have hs5 := HO.out.segs.kept HG5.out (own_ne HO.out.segs HO.out.tras (by decide))
              have hrl : w.heap.size < w3.heap.size + 1 := by omega
              unfold LayPost
              rw [← HL.out, ← HOo.out]
              refine ⟨_, _, rfl, own_lower (own_five hs5 hrl _ _ _ _ _) (by omega), own_lower (own_five HT5.out hrl _ _ _ _ _) (by omega), below_five hb5 (Nat.le_refl _) _ _ _ _ _⟩
end SgM
end Go.Proofs.YtefknfbmphdafaaGreat
