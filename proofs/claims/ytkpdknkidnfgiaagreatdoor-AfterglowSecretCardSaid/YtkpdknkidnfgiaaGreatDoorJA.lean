/- Lemmas for AfterglowSecret: what functions of the program return; no condition. -/
import Derived.Deep.RegionHeld3
import Derived.Lib.Hide
import Derived.KernelRfl
import Derived.Laws.Rows
set_option maxHeartbeats 0
set_option maxRecDepth 100000
set_option linter.unusedVariables false
open Option renaming none->E,some->G
open Bool renaming true->Q,false->z
open Go.Lib renaming hid->H
namespace Go.Proofs.YtkpdknkidnfgiaaGreatDoor
theorem eE{p:Prop}(h:p:=by simp[intOf];omega):p:=h
theorem eJ{p:Prop}(h:p:=by simp only;omega):p:=h
theorem eQ{p:Prop}(h:p:=by unfold maxLen;omega):p:=h
theorem fU{p:Prop}(h:p:=by repeat (first | assumption | apply Bl.dr | apply Bl.al)):p:=h
theorem fx{p:Prop}(h:p:=by have:=HAw.out;show w.heap.size<=A+1;omega):p:=h
theorem kx{p:Prop}(h:p:=by simp only[List.forall_mem_cons,aO,false_imp_iff,implies_true,and_true];exact⟨BX,BY,BD⟩):p:=h
theorem fD{p:Prop}(h:p:=by rw[HYw.out];exact aB _):p:=h
theorem fO{p:Prop}(h:p:=by rw[aK];omega):p:=h
theorem fc{p:Prop}(h:p:=by simpa using h):p:=h
theorem fy{p:Prop}(h:p:=by exact eT _ _):p:=h
theorem fj{p:Prop}(h:p:=by rw[<-hx];rfl):p:=h
theorem fG{p:Prop}(h:p:=by first | rfl | simp):p:=h
theorem jy{p:Prop}(h:p:=by intro e;injection e with e;simp at e;omega):p:=h
theorem fv{p:Prop}(h:p:=by rw[HF.out];rfl):p:=h
theorem gw{p:Prop}(h:p:=by have:=hn.nl y hy;omega):p:=h
theorem gv{p:Prop}(h:p:=by have:=HA.out.2.1;omega):p:=h
theorem nY{p:Prop}(h:p:=by simp only[List.forall_mem_cons,aO,false_imp_iff,implies_true,and_true];exact⟨BX,BY⟩):p:=h
theorem iI{p:Prop}(h:p:=by simp[Value.cells,Value.oneCell']):p:=h
theorem fT{p:Prop}(h:p:=by have:=HM.out;omega):p:=h
theorem lW{p:Prop}(h:p:=by first | exact Bl.dr Bl.eH | exact(Bl.dr Bl.eH).al _):p:=h
theorem gX{p:Prop}(h:p:=by show u.size<=_;omega):p:=h
theorem jr{p:Prop}(h:p:=by show w.heap.size<=A+2;omega):p:=h
theorem eG{p:Prop}(h:p:=by kernel_rfl):p:=h
theorem jx{p:Prop}(h:p:=by show s.tb.length<=_;omega):p:=h
theorem iF{p:Prop}(h:p:=by rw[<-HM.out];omega):p:=h
theorem gM{p:Prop}(h:p:=by simpa using h1):p:=h
theorem jk{p:Prop}(h:p:=by simp[Act.eval,Act.put]):p:=h
theorem iJ{p:Prop}(h:p:=by show A+1≠A;omega):p:=h
theorem lU{p:Prop}(h:p:=by first | exact hv10 | exact hv10.al _):p:=h
theorem rG{p:Prop}(h:p:=by rw[HW.out,aF (show 33<=s[k].toNat by omega),aF (show s[k].toNat<=126 by omega)];rfl):p:=h
theorem qI{p:Prop}(h:p:=by have:=sy (aI HI3) hb4;rw[Lib.strCells_eq,<-Lib.byteCells_append,HTE.out] at this;exact this):p:=h
theorem gm{p:Prop}(h:p:=by rw[hA];simp):p:=h
theorem gZ{p:Prop}(h:p:=by simpa using hj):p:=h
theorem ju{p:Prop}(h:p:=by rw[<-HN.out];omega):p:=h
theorem ic{p:Prop}(h:p:=by simp[St.zero]):p:=h
theorem fN{p:Prop}(h:p:=by simp[hy]):p:=h
theorem lZ{p:Prop}(h:p:=by have:=hn.nu;have:=hr.hl.1;omega):p:=h
theorem jv{p:Prop}(h:p:=by simpa using h.size):p:=h
theorem fF{p:Prop}(h:p:=by simp[h]):p:=h
theorem iG{p:Prop}(h:p:=by simpa using hk):p:=h
theorem eC{p:Prop}(h:p:=by simp;omega):p:=h
theorem gO{p:Prop}(h:p:=by simp[Value.oneCell']):p:=h
theorem jB{p:Prop}(h:p:=by repeat (first | exact Bl.eH | apply Bl.drn | apply Bl.dr | apply Bl.al)):p:=h
theorem gL{p:Prop}(h:p:=by have:=HC.out.2.1;omega):p:=h
theorem ie{p:Prop}(h:p:=by show o.size<=_;omega):p:=h
theorem jj{p:Prop}(h:p:=by show s.us.length<=1000;omega):p:=h
theorem iM{p:Prop}(h:p:=by have:=hn.ns;omega):p:=h
theorem iK{p:Prop}(h:p:=by rw[HE.out];simp;omega):p:=h
theorem fX{p:Prop}(h:p:=by cases ha):p:=h
theorem fV{p:Prop}(h:p:=by simp[intOf]):p:=h
theorem abj{p:Prop}(h:p:=by have:=(hr.lt g hg).1;have:=hb.size;omega):p:=h
theorem aba{p:Prop}(h:p:=by injection hk with hk;omega):p:=h
theorem aaZ{p:Prop}(h:p:=by show s.us.length<=_;omega):p:=h
theorem aaA{p:Prop}(h:p:=by simp[hx]):p:=h
theorem abg{p:Prop}(h:p:=by first | exact Bl.eH | exact gl _ _):p:=h
theorem aaS{p:Prop}(h:p:=by simp[gd];omega):p:=h
theorem aaN{p:Prop}(h:p:=by rw[<-HE.out];rfl):p:=h
theorem aaO{p:Prop}(h:p:=by rw[hX4e,hX5];simp):p:=h
theorem abE{p:Prop}(h:p:=by simp only[aU,aK,bm];omega):p:=h
theorem abu{p:Prop}(h:p:=by intro h;rw[h] at hlk';simp at hlk'):p:=h
theorem abd{p:Prop}(h:p:=by have:=gA hx;omega):p:=h
theorem abx{p:Prop}(h:p:=by have:=Array.getElem_mem_toList (xs:=s.data) (i:=k) hlt;exact this):p:=h
theorem abl{p:Prop}(h:p:=by rw[cJ];exact HM):p:=h
theorem abe{p:Prop}(h:p:=by rw[HYF.out] at hl;simpa using hl):p:=h
theorem abr{p:Prop}(h:p:=by intro h;rw[h] at hk';simp at hk'):p:=h
theorem aaV{p:Prop}(h:p:=by rw[ua,ke]):p:=h
theorem abc{p:Prop}(h:p:=by simpa[kC,hy] using h):p:=h
theorem aaI{p:Prop}(h:p:=by rw[h];simp):p:=h
theorem abn{p:Prop}(h:p:=by have:=HO1.fo.lt;simp;omega):p:=h
theorem lV{p:Prop}(h:p:=by exact mP (fK _ (eL _ _)) D gO):p:=h
theorem jt{p:Prop}(h:p:=by show s.tb.length<=1000;omega):p:=h
theorem ia{p:Prop}(h:p:=by simpa using hi):p:=h
theorem lR{p:Prop}(h:p:=by rw[hw];exact Bl.eH.dr.al _):p:=h
theorem oa{p:Prop}(h:p:=by first | exact ho8 | exact ho8.bl (gl _ _)):p:=h
theorem aaJ{p:Prop}(h:p:=by rw[hz2];simp):p:=h
theorem aaQ{p:Prop}(h:p:=by have:=hn.no;omega):p:=h
theorem aaC{p:Prop}(h:p:=by exact hg):p:=h
theorem aaT{p:Prop}(h:p:=by have:=gA hu;omega):p:=h
theorem abt{p:Prop}(h:p:=by have k:=Rw.bl hh hW;simpa using k):p:=h
theorem aaL{p:Prop}(h:p:=by rw[h];decide):p:=h
theorem nV{p:Prop}(h:p:=by exact aH (bp _ _) om):p:=h
theorem aaP{p:Prop}(h:p:=by simp[Value.ownBlock]):p:=h
theorem aaR{p:Prop}(h:p:=by have:=hn.nt;omega):p:=h
theorem aaK{p:Prop}(h:p:=by rw[hz2];rfl):p:=h
theorem abf{p:Prop}(h:p:=by exact HSU.bl fU):p:=h
theorem lS{p:Prop}(h:p:=by show s.sb.length<=1000;omega):p:=h
theorem aaU{p:Prop}(h:p:=by
 split at h
 ·injection h with h;rw[<-h]
 ·cases h):p:=h
theorem aaM{p:Prop}(h:p:=by
 injection h with h;rw[<-h];exact hi):p:=h
variable {a u:ByteArray} {A i j k n:Nat} {t:TypeId} {c0 c1 c10 c11 c12 c13 c14 c2 c3 c4 c5 c6 c7 c8 c9:Value} {W:World}
section
open Go Go.RowKit
abbrev ay:=ByteArray
theorem gz:(∀ {α:Type} (l:List α) (i:Nat) (h:i<l.toArray.size),l.toArray[i]=l[i]'(by simpa using h))/\(∀ {α:Type} (a:α) (l:List α) (h:0<(a::l).length),(a::l)[0]=a)/\(∀ {α:Type} (a:α) (l:List α) (i:Nat) (h:i+1<(a::l).length),(a::l)[i+1]=l[i]'(by simpa using h)):=
 ⟨λ_ _ _=>rfl,λ_ _ _=>rfl,λ_ _ _ _=>rfl⟩
theorem gy:(∀ {α:Type} (l:List α) (i:Nat) (a:α),l.toArray.setIfInBounds i a=(l.set i a).toArray)/\(∀ {α:Type} (x:α) (l:List α) (a:α),(x::l).set 0 a=a::l)/\(∀ {α:Type} (x:α) (l:List α) (n:Nat) (a:α),(x::l).set (n+1) a=x::l.set n a):=
 ⟨λ_ _ _=>by simp,λ_ _ _=>rfl,λ_ _ _ _=>rfl⟩
structure Tg (n:Nat):Prop where
theorem D {α:Sort _}{a:α}:a=a:=rfl
abbrev av:Value:=.int .i64 0
abbrev aw:Value:=.slice none 0 0
abbrev ax:Value:=.string ⟨#[]⟩
theorem az:type_of% @if_neg:=@if_neg
theorem aA:type_of% @if_pos:=@if_pos
theorem aB:type_of% @Nat.le_refl:=@Nat.le_refl
theorem aC:type_of% @decide_eq_false:=@decide_eq_false
theorem aD:type_of% @Nat.zero_le:=@Nat.zero_le
theorem aE:type_of% @List.mem_cons:=@List.mem_cons
theorem aF:type_of% @decide_eq_true:=@decide_eq_true
theorem aG:type_of% @Or.inl:=@Or.inl
theorem aa0:type_of% @Below.heap_setCell:=@Below.heap_setCell
theorem aH:type_of% @Nat.le_trans:=@Nat.le_trans
theorem aa1:type_of% @bodyPost_ret:=@bodyPost_ret
theorem aI:type_of% @Or.inr:=@Or.inr
theorem aJ:type_of% @And.intro:=@And.intro
theorem aa2:type_of% @Array.getElem?_eq_some_iff:=@Array.getElem?_eq_some_iff
theorem aK:type_of% @List.length_take:=@List.length_take
theorem aL:type_of% @List.take_succ_eq_append_getElem:=@List.take_succ_eq_append_getElem
theorem aM:type_of% @Bool.and_eq_true:=@Bool.and_eq_true
theorem aa3:type_of% @List.pairwise_cons:=@List.pairwise_cons
theorem aN:type_of% @decide_eq_true_eq:=@decide_eq_true_eq
theorem aP:type_of% @congrArg:=@congrArg
theorem aO:type_of% @List.not_mem_nil:=@List.not_mem_nil
theorem aR:type_of% @List.drop_eq_getElem_cons:=@List.drop_eq_getElem_cons
theorem aS:type_of% @List.append_assoc:=@List.append_assoc
theorem aT:type_of% @List.take_length:=@List.take_length
theorem aQ:type_of% @or_false:=@or_false
theorem aa5:type_of% @wpAnyH_take:=@wpAnyH_take
theorem aU:type_of% @List.length_append:=@List.length_append
theorem aa4:type_of% @Below.refl:=@Below.refl
theorem aV:type_of% @List.getElem_mem:=@List.getElem_mem
theorem aa6:type_of% @List.length_eq_zero_iff:=@List.length_eq_zero_iff
theorem aW:type_of% @List.getElem?_eq_getElem:=@List.getElem?_eq_getElem
theorem aX:type_of% @beq_eq_false_iff_ne:=@beq_eq_false_iff_ne
theorem aY:type_of% @List.append_nil:=@List.append_nil
theorem aZ:type_of% @Nat.zero_add:=@Nat.zero_add
theorem bc:type_of% @And.right:=@And.right
theorem bg:type_of% @List.length_map:=@List.length_map
theorem bh:type_of% @List.flatMap_cons:=@List.flatMap_cons
theorem bj:type_of% @List.length_cons:=@List.length_cons
theorem bn:type_of% @Nat.le_of_eq:=@Nat.le_of_eq
theorem bo:type_of% @of_decide_eq_true:=@of_decide_eq_true
theorem bp:type_of% @List.length_filter_le:=@List.length_filter_le
theorem bm:type_of% @List.length_drop:=@List.length_drop
theorem bt:type_of% @Nat.mul_le_mul_right:=@Nat.mul_le_mul_right
theorem bq:type_of% @List.cons_append:=@List.cons_append
theorem bz:type_of% @List.take_of_length_le:=@List.take_of_length_le
theorem bB:type_of% @List.flatMap_append:=@List.flatMap_append
theorem bA:type_of% @List.take_append_drop:=@List.take_append_drop
theorem bC:type_of% @List.map_cons:=@List.map_cons
theorem bD:type_of% @List.all_cons:=@List.all_cons
theorem aa8:type_of% @List.pairwise_append:=@List.pairwise_append
theorem bG:type_of% @List.mem_append:=@List.mem_append
theorem bF:type_of% @List.filter_append:=@List.filter_append
theorem bE:type_of% @List.getElem?_take:=@List.getElem?_take
theorem aa9:type_of% @List.mem_filter:=@List.mem_filter
theorem ab0:type_of% @getElem!_pos:=@getElem!_pos
theorem bH:type_of% @Nat.add_mul:=@Nat.add_mul
theorem bJ:type_of% @List.all_eq_true:=@List.all_eq_true
theorem bI:type_of% @List.mem_map:=@List.mem_map
theorem bM:type_of% @Array.getElem?_eq_none:=@Array.getElem?_eq_none
theorem cU:type_of% @List.getElem_cons_zero:=@List.getElem_cons_zero
theorem bK:type_of% @Nat.lt_of_lt_of_le:=@Nat.lt_of_lt_of_le
theorem bL:type_of% @List.any_cons:=@List.any_cons
theorem bQ:type_of% @List.filter_cons_of_neg:=@List.filter_cons_of_neg
theorem bO:type_of% @List.nil_append:=@List.nil_append
theorem bR:type_of% @List.drop_eq_nil_of_le:=@List.drop_eq_nil_of_le
theorem bP:type_of% @List.mem_singleton:=@List.mem_singleton
theorem ab1:type_of% @cell_of_row:=@cell_of_row
theorem dx:type_of% @List.getElem_cons_succ:=@List.getElem_cons_succ
theorem bN:type_of% @not_or:=@not_or
theorem bT:type_of% @List.getElem?_toArray:=@List.getElem?_toArray
theorem bS:type_of% @List.filter_cons_of_pos:=@List.filter_cons_of_pos
theorem ab2:type_of% @World.cell?_of_block:=@World.cell?_of_block
theorem bV:type_of% @Bool.or_eq_true:=@Bool.or_eq_true
theorem eh:type_of% @List.getElem_toArray:=@List.getElem_toArray
theorem bW:type_of% @Array.getElem?_setIfInBounds:=@Array.getElem?_setIfInBounds
theorem bU:type_of% @Option.getD_some:=@Option.getD_some
theorem bZ:type_of% @Nat.lt_or_ge:=@Nat.lt_or_ge
theorem bX:type_of% @List.drop_length:=@List.drop_length
theorem b6:type_of% @List.getElem?_eq_none:=@List.getElem?_eq_none
theorem ab3:type_of% @wp_region_held_drew:=@wp_region_held_drew
theorem b7:type_of% @Bool.and_true:=@Bool.and_true
theorem b8:type_of% @List.length_nil:=@List.length_nil
theorem ab4:type_of% @List.getElem?_eq_some_iff:=@List.getElem?_eq_some_iff
theorem ch:type_of% @Nat.mul_le_mul:=@Nat.mul_le_mul
theorem cj:type_of% @Array.getElem?_toList:=@Array.getElem?_toList
theorem b9:type_of% @List.all_nil:=@List.all_nil
theorem cn:type_of% @List.drop_succ_cons:=@List.drop_succ_cons
theorem ab5:type_of% @List.mem_iff_getElem:=@List.mem_iff_getElem
theorem cv:type_of% @Bool.eq_iff_iff:=@Bool.eq_iff_iff
theorem cr:type_of% @Nat.sub_self:=@Nat.sub_self
theorem cE:type_of% @UInt8.toNat_inj:=@UInt8.toNat_inj
theorem cz:type_of% @List.map_append:=@List.map_append
theorem cN:type_of% @Nat.add_assoc:=@Nat.add_assoc
theorem cK:type_of% @List.take_succ_cons:=@List.take_succ_cons
theorem cI:type_of% @List.getD_cons_succ:=@List.getD_cons_succ
theorem cL:type_of% @List.drop_take:=@List.drop_take
theorem ab6:type_of% @World.ownsRow_nil:=@World.ownsRow_nil
theorem cH:type_of% @List.getD_cons_zero:=@List.getD_cons_zero
theorem cM:type_of% @Nat.min_eq_left:=@Nat.min_eq_left
theorem cQ:type_of% @Nat.pow_succ:=@Nat.pow_succ
theorem cW:type_of% @List.drop_zero:=@List.drop_zero
theorem cS:type_of% @Bool.not_eq_true:=@Bool.not_eq_true
theorem cX:type_of% @List.foldl_append:=@List.foldl_append
theorem cV:type_of% @List.mem_cons_of_mem:=@List.mem_cons_of_mem
theorem cJ:type_of% @List.length_set:=@List.length_set
theorem cP:type_of% @List.eq_nil_of_length_eq_zero:=@List.eq_nil_of_length_eq_zero
theorem cR:type_of% @List.set_cons_succ:=@List.set_cons_succ
theorem cO:type_of% @Array.getElem?_eq_getElem:=@Array.getElem?_eq_getElem
theorem dh:type_of% @List.ext_getElem?:=@List.ext_getElem?
theorem ab7:type_of% @run_loadVar_row:=@run_loadVar_row
theorem dm:type_of% @Bool.eq_false_iff:=@Bool.eq_false_iff
theorem di:type_of% @Array.getElem?_modify:=@Array.getElem?_modify
theorem du:type_of% @List.take_take:=@List.take_take
theorem dj:type_of% @List.foldl_cons:=@List.foldl_cons
theorem dd:type_of% @ByteArray.data_append:=@ByteArray.data_append
theorem de:type_of% @List.pairwise_map:=@List.pairwise_map
theorem da:type_of% @Nat.mul_comm:=@Nat.mul_comm
theorem cZ:type_of% @List.perm_append_comm:=@List.perm_append_comm
theorem db:type_of% @List.getD_eq_getElem?_getD:=@List.getD_eq_getElem?_getD
theorem cY:type_of% @Nat.mod_lt:=@Nat.mod_lt
theorem dq:type_of% @beq_iff_eq:=@beq_iff_eq
theorem dA:type_of% @Nat.add_zero:=@Nat.add_zero
theorem dB:type_of% @List.any_eq_true:=@List.any_eq_true
theorem dw:type_of% @Bool.false_eq_true:=@Bool.false_eq_true
theorem dy:type_of% @List.getElem_set:=@List.getElem_set
theorem dz:type_of% @List.concat_eq_append:=@List.concat_eq_append
theorem ab8:type_of% @wp_region_noPanic:=@wp_region_noPanic
theorem dP:type_of% @List.map_nil:=@List.map_nil
theorem dQ:type_of% @List.filter_filter:=@List.filter_filter
theorem dG:type_of% @Nat.xor_lt_two_pow:=@Nat.xor_lt_two_pow
theorem dO:type_of% @List.filterMap_cons:=@List.filterMap_cons
theorem dS:type_of% @Nat.eq_zero_or_pos:=@Nat.eq_zero_or_pos
theorem dL:type_of% @List.getElem_set_self:=@List.getElem_set_self
theorem dH:type_of% @List.getElem?_append_left:=@List.getElem?_append_left
theorem dK:type_of% @List.map_map:=@List.map_map
theorem dD:type_of% @Array.ext_getElem?:=@Array.ext_getElem?
theorem dF:type_of% @List.all_append:=@List.all_append
theorem dU:type_of% @Array.getElem?_append_left:=@Array.getElem?_append_left
theorem dI:type_of% @List.eq_nil_or_concat:=@List.eq_nil_or_concat
theorem dJ:type_of% @List.filter_nil:=@List.filter_nil
theorem ab9:type_of% @List.pairwise_iff_getElem:=@List.pairwise_iff_getElem
theorem dR:type_of% @ByteArray.size_extract:=@ByteArray.size_extract
theorem dN:type_of% @List.size_toArray:=@List.size_toArray
theorem dE:type_of% @ByteArray.ext:=@ByteArray.ext
theorem dM:type_of% @Nat.min_le_left:=@Nat.min_le_left
theorem dC:type_of% @List.all_eq_false:=@List.all_eq_false
theorem el:type_of% @List.getElem?_map:=@List.getElem?_map
theorem dZ:type_of% @List.getElem?_drop:=@List.getElem?_drop
theorem dY:type_of% @Nat.lt_trichotomy:=@Nat.lt_trichotomy
theorem ei:type_of% @Bool.not_eq_true':=@Bool.not_eq_true'
theorem er:type_of% @List.getElem?_append_right:=@List.getElem?_append_right
theorem dV:type_of% @List.map_congr_left:=@List.map_congr_left
theorem eA:type_of% @List.set_cons_zero:=@List.set_cons_zero
theorem ed:type_of% @List.length_singleton:=@List.length_singleton
theorem ey:type_of% @of_decide_eq_false:=@of_decide_eq_false
theorem ee:type_of% @List.singleton_append:=@List.singleton_append
theorem dX:type_of% @Bool.eq_false_or_eq_true:=@Bool.eq_false_or_eq_true
theorem dW:type_of% @UInt8.toNat_ofNat':=@UInt8.toNat_ofNat'
theorem om {p:Prop}(h:p:=by omega):p:=h
theorem kr {p:Prop}(h:p:=by kernel_rfl):p:=h
theorem dc {p:Prop}(h:p:=by decide):p:=h
theorem sm {p:Prop}(h:p:=by simp):p:=h
theorem dk {p:Prop}(h:p:=by decide+kernel):p:=h
theorem ms {p:Prop}(h:p:=by assumption):p:=h
theorem nh {α:Type}(a:α):∃ x,x=a/\Hid (x=a):=⟨a,D,H D⟩
theorem qx {P}{f}{a}{w}{v:Ending}{ar:World->Prop}{p:Ending->World->Prop}(h:Calls P f a w λe w'=>e=v/\ar w')(k:∀ w',ar w'->p v w'):Calls P f a w p:=h.mono λe w' x=>x.1 ▸ k w' x.2
theorem QS {P}{f}{a}{w u}{v:Ending}{R:World->Prop}{p:Ending->World->Prop}(h:Calls P f a w λe w'=>e=v/\R w')(k:p v u)(hR:∀ w',R w'->w'=u:=by intro _ h;first | exact h | exact h.symm):Calls P f a w p:=h.mono λe w' ⟨x,y⟩=>by subst x;cases hR _ y;exact k
theorem aaj {P}{f}{a}{w}{α:Sort _}{v:α->Ending}{ar R:α->World->Prop}{p:Ending->World->Prop}(h:Calls P f a w λe w'=>∃ x,e=v x/\ar x w'/\R x w')(k:∀ x w',ar x w'->R x w'->p (v x) w'):Calls P f a w p:=h.mono λe w' ⟨x,y,au,t⟩=>y ▸ k x w' au t
theorem eN {a b:Prop}(x:a)(y:b):Hid a/\Hid b:=⟨H x,H y⟩
theorem gi {a b c:Prop}(x:a)(y:b)(au:c):Hid a/\Hid b/\Hid c:=⟨H x,H y,H au⟩
theorem kB {a b c d:Prop}(x:a)(y:b)(au:c)(u:d):Hid a/\Hid b/\Hid c/\Hid d:=⟨H x,H y,H au,H u⟩
theorem ln {k m:Nat}(h:k<m):(k:Int)<m/\(0:Int)<=k:=om
theorem xV {α:Sort _}{T:α->Prop}{P0 P1:∀ x,T x->Prop}(h0:∀ x t,P0 x t)(h1:∀ x t,P1 x t)(x:α)(t):P0 x t/\P1 x t:=⟨h0 x t,h1 x t⟩
theorem p_3 {α:Sort _}{T:α->Prop}{P0 P1 P2:∀ x,T x->Prop}(h0:∀ x t,P0 x t)(h1:∀ x t,P1 x t)(h2:∀ x t,P2 x t)(x:α)(t):P0 x t/\P1 x t/\P2 x t:=⟨h0 x t,h1 x t,h2 x t⟩
theorem uW {α:Sort _}{T:α->Prop}{P0 P1 P2 P3:∀ x,T x->Prop}(h0:∀ x t,P0 x t)(h1:∀ x t,P1 x t)(h2:∀ x t,P2 x t)(h3:∀ x t,P3 x t)(x:α)(t):P0 x t/\P1 x t/\P2 x t/\P3 x t:=⟨h0 x t,h1 x t,h2 x t,h3 x t⟩
theorem p_5 {α:Sort _}{T:α->Prop}{P0 P1 P2 P3 P4:∀ x,T x->Prop}(h0:∀ x t,P0 x t)(h1:∀ x t,P1 x t)(h2:∀ x t,P2 x t)(h3:∀ x t,P3 x t)(h4:∀ x t,P4 x t)(x:α)(t):P0 x t/\P1 x t/\P2 x t/\P3 x t/\P4 x t:=⟨h0 x t,h1 x t,h2 x t,h3 x t,h4 x t⟩
theorem uV {α:Sort _}{T:α->Prop}{P0 P1 P2 P3 P4 P5:∀ x,T x->Prop}(h0:∀ x t,P0 x t)(h1:∀ x t,P1 x t)(h2:∀ x t,P2 x t)(h3:∀ x t,P3 x t)(h4:∀ x t,P4 x t)(h5:∀ x t,P5 x t)(x:α)(t):P0 x t/\P1 x t/\P2 x t/\P3 x t/\P4 x t/\P5 x t:=⟨h0 x t,h1 x t,h2 x t,h3 x t,h4 x t,h5 x t⟩
theorem fe {α:Type}(a:α):∃ x,x=a:=⟨a,D⟩
section
variable {P:Program}{ops:Array Oper}{ar:Exit->Act->World->Prop}{md:Region.Mode}{S:World->Prop}{fuel:Nat}{listed:Array Bool}{a a':Act}{w:World}
theorem tH (i:Nat){oi:Oper}{v:Value}(hS:S w)(h:wpAnyH P md ops ar S fuel (listed.setIfInBounds i Q) a' w)
 (hi:ops[i]?=G oi:=by rfl) (hs:Region.noSelect ops=Q:=by kernel_rfl) (hf:Region.free md ops listed i=Q:=by kernel_rfl) (hr:(Region.ready md ops listed).contains i=Q:=by kernel_rfl)
 (hQ:∀ c a w,ar (.panic c) (a.put oi.dst v) w->ar (.panic c) a w:=by exact λ_ _ _ h=>h)
 (hy:YieldsIf P ops S oi v a:=by refine aG ⟨by rfl,?_⟩;intro wx hSx;go_simp;try with_reducible rfl)
 (ha:a.put oi.dst v=a':=by first | (simp only[Act.put,eh,cU,dx,List.setIfInBounds_toArray,eA,cR];rfl) | rfl):wpAnyH P md ops ar S (fuel+1) listed a w:=by
 subst ha;exact aa5 (i:=i) hi hs hf hr hQ hy hS h
theorem oI (i:Nat){oi:Oper}(hS:S w)(h:wpAnyH P md ops ar S fuel (listed.setIfInBounds i Q) a' w)
 (hi:ops[i]?=G oi:=by rfl) (hs:Region.noSelect ops=Q:=by kernel_rfl) (hf:Region.free md ops listed i=Q:=by kernel_rfl) (hr:(Region.ready md ops listed).contains i=Q:=by kernel_rfl)
 (hQ:∀ c a w,ar (.panic c) (a.put oi.dst undef) w->ar (.panic c) a w:=by exact λ_ _ _ h=>h)
 (hy:YieldsIf P ops S oi undef a:=by exact aI ⟨by rfl,D⟩)
 (ha:a.put oi.dst undef=a':=by first | (simp only[Act.put,eh,cU,dx,List.setIfInBounds_toArray,eA,cR];rfl) | rfl):wpAnyH P md ops ar S (fuel+1) listed a w:=by
 subst ha;exact aa5 (i:=i) hi hs hf hr hQ hy hS h
abbrev HS (P:Program)(md:Region.Mode)(ops:Array Oper)(ar:Exit->Act->World->Prop)(S:World->Prop)(fuel:Nat)(listed:Array Bool)(a:Act)(w:World)(i:Nat)(o:Oper):Prop:=
 ∀ K':Act->World->Prop,Shut (∀ a w,S w->(S w->wpAnyH P md ops ar S fuel (listed.setIfInBounds i Q) a w)->K' a w)->if Region.wanted o (yielded ops a.tmps)=Q then Oper.wp P o a w K' ar else K' (a.put o.dst undef) w
theorem vO (i:Nat){o}(h:HS P md ops ar S fuel listed a w i o)(ho:ops[i]?=G o:=by rfl)(hr:Region.ready md ops listed=[i]:=by kernel_rfl):wpAnyH P md ops ar S (fuel+1) listed a w:=
 wpAnyH_ready hr sm (.cons ho h .nil)
theorem Wj (i j:Nat){o p}(h:HS P md ops ar S fuel listed a w i o)(h':HS P md ops ar S fuel listed a w j p)(ho:ops[i]?=G o:=by rfl)(hp:ops[j]?=G p:=by rfl)(hr:Region.ready md ops listed=[i,j]:=by kernel_rfl):wpAnyH P md ops ar S (fuel+1) listed a w:=
 wpAnyH_ready hr sm (.cons ho h (.cons hp h' .nil))
theorem XR (h:ar .normal a w)(hr:Region.ready md ops listed=[]:=by kernel_rfl):wpAnyH P md ops ar S fuel listed a w:=wpAnyH_done hr h fuel
theorem Vj (h:ar .normal a w)(hr:Region.ready md ops listed=[]:=by kernel_rfl):wpAnyH P md ops (NoPanic ar) S fuel listed a w:=wpAnyH_done hr (NoPanic.normal h) fuel
end
theorem XM(h:W.heap[A]?=G (.cells #[c0,c1] t)):W.cell? ⟨A,0,E⟩=G c0/\W.cell? ⟨A,1,E⟩=G c1:=
 have k:=λi=>ab1 W A i _ t (0,0) h
 ⟨k 0,k 1⟩
theorem xf4(h:W.heap[A]?=G (.cells #[c0,c1,c2,c3] t)):W.cell? ⟨A,0,E⟩=G c0/\W.cell? ⟨A,1,E⟩=G c1/\W.cell? ⟨A,2,E⟩=G c2/\W.cell? ⟨A,3,E⟩=G c3:=
 have k:=λi=>ab1 W A i _ t (0,0) h
 ⟨k 0,k 1,k 2,k 3⟩
theorem jF(h:W.heap[A]?=G (.cells #[c0,c1,c2,c3,c4,c5] t)):W.cell? ⟨A,0,E⟩=G c0/\W.cell? ⟨A,1,E⟩=G c1/\W.cell? ⟨A,2,E⟩=G c2/\W.cell? ⟨A,3,E⟩=G c3/\W.cell? ⟨A,4,E⟩=G c4/\W.cell? ⟨A,5,E⟩=G c5:=
 have k:=λi=>ab1 W A i _ t (0,0) h
 ⟨k 0,k 1,k 2,k 3,k 4,k 5⟩
theorem JD(h:W.heap[A]?=G (.cells #[c0,c1,c2,c3,c4,c5,c6,c7,c8,c9,c10,c11,c12,c13,c14] t)):W.cell? ⟨A,0,E⟩=G c0/\W.cell? ⟨A,1,E⟩=G c1/\W.cell? ⟨A,2,E⟩=G c2/\W.cell? ⟨A,3,E⟩=G c3/\W.cell? ⟨A,4,E⟩=G c4/\W.cell? ⟨A,5,E⟩=G c5/\W.cell? ⟨A,6,E⟩=G c6/\W.cell? ⟨A,7,E⟩=G c7/\W.cell? ⟨A,8,E⟩=G c8/\W.cell? ⟨A,9,E⟩=G c9/\W.cell? ⟨A,10,E⟩=G c10/\W.cell? ⟨A,11,E⟩=G c11/\W.cell? ⟨A,12,E⟩=G c12/\W.cell? ⟨A,13,E⟩=G c13/\W.cell? ⟨A,14,E⟩=G c14:=
 have k:=λi=>ab1 W A i _ t (0,0) h
 ⟨k 0,k 1,k 2,k 3,k 4,k 5,k 6,k 7,k 8,k 9,k 10,k 11,k 12,k 13,k 14⟩
end
namespace Tp
structure Ev where
 kind:Int
 time:Int
 user:ay
 other:ay
 n:Int
 st:Int
 deriving DecidableEq
structure eP where
 a:Int
 b:Int
 n:Int
 st:Int
 deriving DecidableEq
structure fl where
 n:Int
 u:ay
 st:Int
 a:Int
 deriving DecidableEq
structure Sub where
 w:ay
 u:ay
 a:Int
 b:Int
 deriving DecidableEq
structure fm where
 a:Int
 b:Int
 deriving DecidableEq
structure il where
 u:ay
 l:List eP
structure gb where
 u:ay
 t:Int
structure St where
 now:Int
 fb:Int
 op:List fl
 us:List il
 sb:List Sub
 tb:List gb
def St.zero:St:=⟨0,0,[],[],[],[]⟩
abbrev FE:Int:=1099511627776
def eP.lt (x y:eP):Bool:=decide (x.a<y.a∨x.a=y.a/\(x.b<y.b∨x.b=y.b/\(x.n<y.n∨x.n=y.n/\x.st<y.st)))
def eP.ok (x:eP):Bool:=decide (x.a<x.b)
def mQ:List eP->eP->List eP
 | [],s=>[s]
 | x::r,s=>if(x::r).all (λy=>s.lt y) then s::x::r else x::mQ r s
def pV (l:List eP)(s:eP):List eP:=if s.ok then mQ l s else l
def j8:List eP->eP->List eP
 | [],s=>[s]
 | x::r,s=>if s.lt x then s::x::r else x::j8 r s
def uP (l:List eP):List eP:=l.foldl j8 []
abbrev fZ (l:List eP):Prop:=l.Pairwise λx y=>y.lt x=z
theorem WQ {x y:eP}(h1:x.lt y=z)(h2:y.lt x=z):x=y:=by
 obtain⟨a,b,n,s⟩:=x;obtain⟨a',b',n',s'⟩:=y;simp[eP.lt] at h1 h2 ⊢;omega
theorem KC (x:eP):x.lt x=z:=by simp[eP.lt]
theorem mw {x y:eP}(h:x.lt y=Q):y.lt x=z:=by
 simp[eP.lt] at h ⊢;omega
theorem le_trans {x y au:eP}(h:y.lt x=z)(h':au.lt y=z):au.lt x=z:=by
 simp[eP.lt] at h h' ⊢;omega
theorem pc:∀ (l:List eP) (s:eP),(mQ l s).Perm (s::l)
 | [],_=>.refl _
 | x::r,s=>by
   unfold mQ
   split
   ·exact .refl _
   ·exact((pc r s).cons x).trans (.swap s x r)
theorem vd:∀ (l:List eP) (s:eP),(j8 l s).Perm (s::l)
 | [],_=>.refl _
 | x::r,s=>by
   unfold j8
   split
   ·exact .refl _
   ·exact((vd r s).cons x).trans (.swap s x r)
theorem I7:∀ {l:List eP} {s:eP},fZ l->fZ (j8 l s)
 | [],_,_=>by simp[j8,fZ]
 | x::r,s,h=>by
   unfold j8;have hx:=aa3.1 h
   split
   ·rename_i hs;refine aa3.2 ⟨λy hy=>?_,h⟩;rcases aE.1 hy with rfl | hy
    ·exact mw hs
    ·exact le_trans (mw hs) (hx.1 y hy)
   ·rename_i hs;refine aa3.2 ⟨λy hy=>?_,I7 hx.2⟩;rcases aE.1 ((vd r s).mem_iff.1 hy) with rfl | hy
    ·simpa using hs
    ·exact hx.1 y hy
theorem Db:∀ (l acc:List eP),fZ acc->fZ (l.foldl j8 acc)
 | [],_,h=>h
 | _::r,_,h=>Db r _ (I7 h)
theorem AR (l):fZ (uP l):=Db l [] .nil
theorem xw:∀ (l acc:List eP),(l.foldl j8 acc).Perm (acc++l)
 | [],acc=>by simp
 | x::r,acc=>by
   refine(xw r _).trans ?_;refine((vd acc x).append_right r).trans ?_;exact(List.perm_middle (l₁:=acc) (a:=x) (l₂:=r)).symm
theorem mr (l):(uP l).Perm l:=xw l []
theorem MI:∀ {l m:List eP},l.Perm m->fZ l->fZ m->l=m
 | [],m,h,_,_=>by have:=h.length_eq;cases m with | nil=>rfl | cons=>simp at this
 | x::r,[],h,_,_=>by have:=h.length_eq;simp at this
 | x::r,y::t,h,h1,h2=>by
   have k1:=aa3.1 h1;have k2:=aa3.1 h2;have e:x=y:=by
    have hx:x∈y::t:=h.mem_iff.1 sm;have hy:y∈x::r:=h.mem_iff.2 sm;rcases aE.1 hx with e | hx
    ·exact e
    rcases aE.1 hy with e | hy
    ·exact e.symm
    ·exact WQ (k2.1 x hx) (k1.1 y hy)
   subst e;rw[MI (List.Perm.cons_inv h) k1.2 k2.2]
theorem AS {l m:List eP}(h:l.Perm m):uP l=uP m:=
 MI ((mr l).trans (h.trans (mr m).symm)) (AR l) (AR m)
theorem Am:∀ (l acc:List eP),(l.foldl pV acc).Perm (acc++l.filter eP.ok)
 | [],acc=>by simp
 | x::r,acc=>by
   refine(Am r _).trans ?_;unfold pV;by_cases h:x.ok=Q
   ·rw[aA h,bS h];exact((pc acc x).append_right _).trans (List.perm_middle (l₁:=acc) (a:=x)).symm
   ·rw[az h,bQ h]
def fm.ok (x:fm):Bool:=decide (x.a<x.b)
def gh (s:eP)(t:fm):eP:=⟨max s.a t.a,min s.b t.b,s.n,s.st⟩
def jb (s:eP):Option eP:=if s.ok then G s else E
def jU (N:List fm)(s:eP):List eP:=N.filterMap λt=>jb (gh s t)
def oJ (l:List eP)(N:List fm):List eP:=l.flatMap (jU N)
def jT (l:List eP)(N:List fm):List eP:=uP (oJ l N)
theorem xT {l m:List eP}(h:l.Perm m)(N):(oJ l N).Perm (oJ m N):=h.flatMap_right _
abbrev FC (N:List fm):Prop:=N.Pairwise λx y=>x.b<=y.a
theorem zO {s}{t:fm}:∀ {N:List fm},(∀ x∈N,x.b<=t.a∨t.b<=x.a)->N.filterMap (λn=>jb (gh (gh s n) t))=[]
 | [],_=>rfl
 | x::r,h=>by
   have hx:=h x sm;rw[List.filterMap_cons_none]
   ·exact zO λy hy=>h y fN
   ·unfold jb;rw[az];simp[eP.ok,gh];omega
theorem Ee (s:eP)(t:fm)(ht:t.a<t.b):∀ {N:List fm},FC N->(∃ n∈N,n.a<=t.a/\t.b<=n.b)->
 N.filterMap (λn=>jb (gh (gh s n) t))=(jb (gh s t)).toList
 | [],_,⟨_,h,_⟩=>by simp at h
 | x::r,h,⟨n,hn,h1,h2⟩=>by
   have k:=aa3.1 h;by_cases hx:x.a<=t.a/\t.b<=x.b
   ·have e:gh (gh s x) t=gh s t:=by
     simp[gh];omega
    have hr:r.filterMap (λn=>jb (gh (gh s n) t))=[]:=zO λy hy=>aI (by have:=k.1 y hy;omega);rw[dO,e];cases ho:jb (gh s t) with
    | none=>simp[hr]
    | some v=>simp[hr]
   ·have hn':n∈r:=by
     rcases aE.1 hn with rfl | hn
     ·exact absurd ⟨h1,h2⟩ hx
     ·exact hn
    have:=k.1 n hn';rw[List.filterMap_cons_none]
    ·exact Ee s t ht k.2 ⟨n,hn',h1,h2⟩
    ·unfold jb;rw[az];simp[eP.ok,gh];omega
theorem EM {α β}:∀ (N:List α) (f h:α->List β),(N.flatMap λn=>f n++h n).Perm (N.flatMap f++N.flatMap h)
 | [],_,_=>.refl _
 | x::r,f,h=>by
   simp only[bh,aS];refine List.Perm.append_left _ ?_;refine((EM r f h).append_left _).trans ?_;rw[<-aS,<-aS];exact List.Perm.append_right _ cZ
theorem Ac {α β γ}(g:α->β->Option γ)(N:List α):∀ (T:List β),(N.flatMap λn=>T.filterMap (g n)).Perm (T.flatMap λt=>N.filterMap λn=>g n t)
 | []=>by simp
 | t::r=>by
   have e:(N.flatMap λn=>(t::r).filterMap (g n))=N.flatMap λn=>(g n t).toList++r.filterMap (g n):=by
    congr 1;funext n
    rw[dO];cases g n t<;>rfl
   rw[e];refine(EM N _ _).trans ?_;rw[bh];refine List.Perm.append ?_ (Ac g N r);have e2:(N.flatMap λn=>(g n t).toList)=N.filterMap λn=>g n t:=by
    clear e
    induction N with
    | nil=>rfl
    | cons x r ih=>rw[bh,dO,ih];cases g x t<;>rfl
   rw[e2]
theorem Td {p:eP}(t)(h:p.ok=z):jb (gh p t)=E:=by
 unfold jb;rw[az];have h':¬p.a<p.b:=ey h;intro hh;have hh:=bo hh;simp only[gh] at hh;omega
theorem LL (N T)(s):(jU N s).flatMap (jU T)=N.flatMap λn=>T.filterMap λt=>jb (gh (gh s n) t):=by
 induction N with
 | nil=>rfl
 | cons x r ih=>
  unfold jU at ih ⊢;rw[dO,bh,<-ih];by_cases h:(gh s x).ok=Q
  ·have:jb (gh s x)=G (gh s x):=by unfold jb;rw[aA h]
   rw[this];rfl
  ·have:jb (gh s x)=E:=by unfold jb;rw[az h]
   rw[this];have e:(T.filterMap λt=>jb (gh (gh s x) t))=[]:=by
    rw[List.filterMap_eq_nil_iff];intro t _;exact Td t fc
   rw[e];rfl
theorem Qw (N T:List fm)(hN:FC N)(hT:∀ t∈T,t.a<t.b/\∃ n∈N,n.a<=t.a/\t.b<=n.b)(s):((jU N s).flatMap (jU T)).Perm (jU T s):=by
 rw[LL];refine(Ac (λn t=>jb (gh (gh s n) t)) N T).trans ?_;have e:(T.flatMap λt=>N.filterMap λn=>jb (gh (gh s n) t))=jU T s:=by
  unfold jU
  induction T with
  | nil=>rfl
  | cons x r ih=>
   rw[bh,dO,ih λt ht=>hT t (by simp[ht]),Ee s x (hT x sm).1 hN (hT x sm).2];cases jb (gh s x)<;>rfl
 rw[e]
theorem IC (L)(N T:List fm)(hN:FC N)(hT:∀ t∈T,t.a<t.b/\∃ n∈N,n.a<=t.a/\t.b<=n.b):(oJ (oJ L N) T).Perm (oJ L T):=by
 unfold oJ;rw[List.flatMap_assoc]
 induction L with
 | nil=>exact .refl _
 | cons s r ih=>
  rw[bh,bh];exact(Qw N T hN hT s).append ih
theorem Qv {L M}{N T:List fm}(hN:FC N)(hT:∀ t∈T,t.a<t.b/\∃ n∈N,n.a<=t.a/\t.b<=n.b)(h:jT L N=jT M N):jT L T=jT M T:=by
 have p:(oJ L N).Perm (oJ M N):=by
  refine(mr _).symm.trans (.trans ?_ (mr _));rw[show uP (oJ L N)=uP (oJ M N) from h]
 exact AS ((IC L N T hN hT).symm.trans ((xT p T).trans (IC M N T hN hT)))
def kC (l:List fl)(n:Int):Option fl:=l.find? λx=>decide (x.n=n)
def oC:List fl->fl->List fl
 | [],e=>[e]
 | x::r,e=>if x.n>e.n then e::x::r else x::oC r e
def yP:List fl->Int->Int->Int->List fl
 | [],_,_,_=>[]
 | x::r,n,s,t=>if x.n=n then⟨x.n,x.u,s,t⟩::r else x::yP r n s t
def tS:List fl->Int->List fl
 | [],_=>[]
 | x::r,n=>if x.n=n then r else x::tS r n
def fl.stay (x:fl)(t:Int):eP:=⟨x.a,t,x.n,x.st⟩
def kR:List il->ay->List eP
 | [],_=>[]
 | y::r,u=>if y.u=u then y.l else kR r u
def p8:List il->ay->eP->List il
 | [],_,_=>[]
 | y::r,u,x=>if y.u=u then⟨y.u,mQ y.l x⟩::r else y::p8 r u x
def o9 (lt:ay->ay->Bool):List il->il->List il
 | [],x=>[x]
 | y::r,x=>if lt y.u x.u then y::o9 lt r x else x::y::r
def mi (l:List il)(u:ay):Bool:=l.any λy=>decide (y.u=u)
def qi (lt:ay->ay->Bool)(l:List il)(u:ay)(x:eP):List il:=
 if x.ok then(if mi l u then p8 l u x else o9 lt l ⟨u,[x]⟩) else l
def sJ (lt:ay->ay->Bool):List gb->gb->List gb
 | [],x=>[x]
 | y::r,x=>if lt y.u x.u then y::sJ lt r x else x::y::r
def Sub.ou (w u:ay)(x:Sub):Bool:=decide (x.w=w/\x.u=u/\x.b=FE)
def yu (l:List Sub)(w u:ay):Bool:=l.any (Sub.ou w u)
def Sub.lt (lt:ay->ay->Bool)(x y:Sub):Bool:=
 if x.w=y.w then(if x.u=y.u then decide (x.a<y.a) else lt x.u y.u) else lt x.w y.w
def qe (lt:ay->ay->Bool):List Sub->Sub->List Sub
 | [],x=>[x]
 | y::r,x=>if Sub.lt lt x y then x::y::r else y::qe lt r x
def yV:List Sub->ay->ay->Int->List Sub
 | [],_,_,_=>[]
 | y::r,w,u,t=>if Sub.ou w u y then(if y.a<t then⟨y.w,y.u,y.a,t⟩::r else r) else y::yV r w u t
def kM (lt:ay->ay->Bool)(s:St)(e:Ev):Option St:=
 if e.kind=1 then
  if(kC s.op e.n).isSome=Q∨16<=s.op.length then E else G {s with op:=oC s.op ⟨e.n,e.user,e.st,e.time⟩,now:=e.time}
 else if e.kind=2∨e.kind=3 then
  match kC s.op e.n with
  | none=>E
  | some x=>if x.u=e.user then G {s with op:=if e.kind=2 then yP s.op e.n e.st e.time else tS s.op e.n,us:=qi lt s.us e.user (x.stay e.time),now:=e.time} else E
 else if e.kind=4 then if yu s.sb e.user e.other then E else G {s with sb:=qe lt s.sb ⟨e.user,e.other,e.time,FE⟩,now:=e.time}
 else if e.kind=5 then if yu s.sb e.user e.other then G {s with sb:=yV s.sb e.user e.other e.time,now:=e.time} else E
 else if e.kind=6 then G {s with fb:=max s.fb e.n,now:=e.time}
 else if e.kind=7 then G {s with op:=s.op.filter λx=>decide (x.u≠e.user),sb:=s.sb.filter λx=>decide (x.w≠e.user/\x.u≠e.user),us:=s.us.filter λx=>decide (x.u≠e.user),tb:=sJ lt (s.tb.filter λx=>decide (x.u≠e.user)) ⟨e.user,e.time⟩,now:=e.time}
 else E
def ft (lt:ay->ay->Bool)(ok:Ev->Bool)(s:St)(e:Ev):Option St:=if ok e=Q/\s.now<=e.time then kM lt s e else E
def runs (lt:ay->ay->Bool)(ok:Ev->Bool):St->List Ev->Option St
 | s,[]=>G s
 | s,e::r=>(ft lt ok s e).bind λs'=>runs lt ok s' r
def taken (lt:ay->ay->Bool)(ok:Ev->Bool):St->List Ev->List Ev
 | _,[]=>[]
 | s,e::r=>match ft lt ok s e with
   | none=>taken lt ok s r
   | some s'=>e::taken lt ok s' r
section
variable {lt:ay->ay->Bool}{ok:Ev->Bool}
theorem pC:∀ (l:List Ev) (s:St),∃ s',runs lt ok s (taken lt ok s l)=G s'
 | [],s=>⟨s,D⟩
 | e::r,s=>by
   unfold taken
   split
   ·exact pC r s
   ·rename_i s' h;obtain⟨s2,h2⟩:=pC r s';exact⟨s2,by simp[runs,h,h2]⟩
theorem Fc {s s'}{e}(h:kM lt s e=G s'):s'.now=e.time:=by
 unfold kM at h
 split at h
 ·split at h
  ·cases h
  ·injection h with h;rw[<-h]
 split at h
 ·split at h
  ·cases h
  ·exact aaU
 split at h
 ·split at h
  ·cases h
  ·injection h with h;rw[<-h]
 split at h
 ·exact aaU
 split at h
 ·injection h with h;rw[<-h]
 exact aaU
abbrev Rc (l:List fl):Prop:=l.Pairwise λx y=>x.n<y.n
theorem sC:∀ (l:List fl) (e:fl),(oC l e).Perm (e::l)
 | [],_=>.refl _
 | x::r,e=>by
   unfold oC
   split
   ·exact .refl _
   ·exact((sC r e).cons x).trans (.swap e x r)
theorem Et:∀ {l:List fl} {e:fl},Rc l->(kC l e.n).isSome=z->Rc (oC l e)
 | [],_,_,_=>by simp[oC,Rc]
 | x::r,e,h,hf=>by
   have k:=aa3.1 h;have hx:x.n≠e.n:=by intro hx;simp[kC,hx] at hf
   have hr:(kC r e.n).isSome=z:=by simpa[kC,hx] using hf
   unfold oC
   split
   ·rename_i hlt;refine aa3.2 ⟨λy hy=>?_,h⟩;rcases aE.1 hy with rfl | hy
    ·exact hlt
    ·have:=k.1 y hy;omega
   ·refine aa3.2 ⟨λy hy=>?_,Et k.2 hr⟩;rcases aE.1 ((sC r e).mem_iff.1 hy) with rfl | hy
    ·omega
    ·exact k.1 y hy
theorem E7:∀ {l:List fl} {n:Int} {x:fl},kC l n=G x->l.Perm (x::tS l n)/\x.n=n
 | [],_,_,h=>by simp[kC] at h
 | y::r,n,x,h=>by
   unfold tS;by_cases hy:y.n=n
   ·simp[kC,hy] at h;subst h;rw[aA hy];exact⟨.refl _,hy⟩
   ·have:=E7 (l:=r) (n:=n) (x:=x) abc;rw[az hy];exact⟨(this.1.cons y).trans (.swap x y _),this.2⟩
theorem yC:∀ {l:List fl} {n:Int} {x:fl} (s t:Int),kC l n=G x->(yP l n s t).Perm (⟨x.n,x.u,s,t⟩::tS l n)
 | [],_,_,_,_,h=>by simp[kC] at h
 | y::r,n,x,s,t,h=>by
   unfold tS yP;by_cases hy:y.n=n
   ·simp[kC,hy] at h;subst h;rw[aA hy,aA hy]
   ·have:=yC (l:=r) (n:=n) (x:=x) s t abc;rw[az hy,az hy];exact(this.cons y).trans (.swap _ y _)
theorem Bb:∀ (l:List fl) (n:Int),(tS l n).Sublist l
 | [],_=>.slnil
 | y::r,n=>by
   unfold tS
   split
   ·exact List.sublist_cons_self y r
   ·exact(Bb r n).cons_cons y
theorem Hj:∀ (l:List fl) (n s t:Int),(yP l n s t).map (·.n)=l.map (·.n)
 | [],_,_,_=>rfl
 | y::r,n,s,t=>by
   unfold yP
   split
   ·simp
   ·simp[Hj r n s t]
theorem Ww {l m:List fl}(h:l.map (·.n)=m.map (·.n))(hm:Rc m):Rc l:=by
 have:(m.map (·.n)).Pairwise (· < ·):=de.2 hm;rw[<-h] at this;exact de.1 this
theorem NB:∀ {l:List fl} {n:Int},Rc l->∀ y∈tS l n,y.n≠n
 | [],_,_,y,hy=>by simp[tS] at hy
 | x::r,n,h,y,hy=>by
   have k:=aa3.1 h;unfold tS at hy
   split at hy
   ·have:=k.1 y hy;omega
   ·rcases aE.1 hy with rfl | hy
    ·assumption
    ·exact NB k.2 y hy
theorem Ue {s s':St}{e}(hi:Rc s.op)(h:kM lt s e=G s'):Rc s'.op:=by
 unfold kM at h
 split at h
 ·split at h
  ·cases h
  ·rename_i hn;injection h with h;rw[<-h]
   exact Et hi (by simp only[bN] at hn;simpa using hn.1)
 split at h
 ·split at h
  ·cases h
  ·split at h
   ·injection h with h;rw[<-h]
    show Rc (if e.kind=2 then _ else _)
    split
    ·exact Ww (Hj _ _ _ _) hi
    ·exact hi.sublist (Bb _ _)
   ·cases h
 split at h
 ·split at h
  ·cases h
  ·exact aaM
 split at h
 ·split at h
  ·exact aaM
  ·cases h
 split at h
 ·exact aaM
 split at h
 ·injection h with h;rw[<-h];exact hi.filter _
 ·cases h
theorem IH:∀ {l:List il} {u:ay} {x:eP},mi l u=Q->kR (p8 l u x) u=mQ (kR l u) x
 | [],_,_,h=>by simp[mi] at h
 | y::r,u,x,h=>by
   unfold p8 kR;by_cases hy:y.u=u
   ·simp[hy]
   ·rw[az hy,az hy];simp only[az hy];exact IH (by simpa[mi,hy] using h)
theorem DZ:∀ {l:List il} {u v:ay} {x:eP},v≠u->kR (p8 l v x) u=kR l u
 | [],_,_,_,_=>rfl
 | y::r,u,v,x,h=>by
   unfold p8;by_cases hy:y.u=v
   ·rw[aA hy];simp[kR,hy,h]
   ·rw[az hy];unfold kR;rw[DZ (l:=r) h]
theorem II:∀ {l:List il} {y:il},mi l y.u=z->kR (o9 lt l y) y.u=y.l
 | [],y,_=>by simp[o9,kR]
 | au::r,y,h=>by
   have hz:au.u≠y.u:=by intro e;simp[mi,e] at h
   unfold o9
   split
   ·unfold kR;rw[az hz];exact II (by simpa[mi,hz] using h)
   ·simp[kR]
theorem D7:∀ {l:List il} {y:il} {u:ay},y.u≠u->kR (o9 lt l y) u=kR l u
 | [],y,u,h=>by simp[o9,kR,h]
 | au::r,y,u,h=>by
   unfold o9
   split
   ·unfold kR;rw[D7 h]
   ·rw[show kR (y::au::r) u=if y.u=u then y.l else kR (au::r) u from rfl,az h]
theorem tX:∀ {l:List il} {u:ay},mi l u=z->kR l u=[]
 | [],_,_=>rfl
 | y::r,u,h=>by
   have hy:y.u≠u:=by intro e;simp[mi,e] at h
   unfold kR;rw[az hy];exact tX (by simpa[mi,hy] using h)
theorem Th (l)(u)(x):(kR (qi lt l u x) u).Perm (kR l u++[x].filter eP.ok):=by
 unfold qi;by_cases hx:x.ok=Q
 ·rw[aA hx,bS hx,dJ];cases hh:mi l u with
  | true=>
   rw[aA D,IH hh];exact(pc _ _).trans (cZ (l₁:=[x]))
  | false=>
   rw[az dc,tX hh];have:=II (lt:=lt) (l:=l) (y:=⟨u,[x]⟩) hh;simp only at this;rw[this];exact .refl _
 ·rw[az hx,bQ hx,dJ,aY]
theorem Oo {v:ay}(l)(x)(h:v≠u):kR (qi lt l v x) u=kR l u:=by
 unfold qi
 split
 ·split
  ·exact DZ h
  ·exact D7 h
 ·rfl
theorem Bn:∀ (l:List il) (u:ay),kR (l.filter λx=>decide (x.u≠u)) u=[]
 | [],_=>rfl
 | y::r,u=>by
   by_cases hy:y.u=u
   ·rw[bQ fN];exact Bn r u
   ·rw[bS fN];unfold kR;rw[az hy];exact Bn r u
theorem xX:∀ (l:List il) {u v:ay},v≠u->kR (l.filter λx=>decide (x.u≠v)) u=kR l u
 | [],_,_,_=>rfl
 | y::r,u,v,h=>by
   by_cases hy:y.u=v
   ·rw[bQ fN];rw[xX r h]
    conv=>rhs;unfold kR
    rw[az (by rw[hy];exact h)]
   ·rw[bS fN];unfold kR;rw[xX r h]
def mM:List Ev->Int->Int->Int
 | [],_,now=>now
 | e::r,n,now=>if(e.kind=2∨e.kind=3)/\e.n=n then e.time else mM r n now
def mo (r:List Ev)(u:ay):Bool:=r.any λe=>decide (e.kind=7/\e.user=u)
def SL:List Ev->ay->Int->List eP
 | [],_,_=>[]
 | e::r,u,now=>if mo r u=Q then SL r u now else if(e.kind=1∨e.kind=2)/\e.user=u then⟨e.time,mM r e.n now,e.n,e.st⟩::SL r u now else SL r u now
def tl (r:List Ev)(u:ay)(now:Int)(l:List fl):List eP:=((l.filter λx=>decide (x.u=u)).map λx=>(x.stay (mM r x.n now))).filter eP.ok
def SS (s:St)(u:ay)(now:Int):List eP:=kR s.us u++tl [] u now s.op
def QQ (s:St)(r:List Ev)(u:ay)(now:Int):List eP:=
 if mo r u=Q then(SL r u now).filter eP.ok else kR s.us u++(tl r u now s.op++(SL r u now).filter eP.ok)
theorem tW {l m:List fl}(h:l.Perm m)(r)(u)(now:Int):(tl r u now l).Perm (tl r u now m):=((h.filter _).map _).filter _
theorem o6 (r)(u)(now:Int)(x:fl)(l:List fl):tl r u now (x::l)=(if x.u=u then [x.stay (mM r x.n now)] else []).filter eP.ok++tl r u now l:=by
 unfold tl;by_cases h:x.u=u
 ·rw[bS fF,aA h,bC,<-bF,ee]
 ·rw[bQ fF,az h];rfl
theorem LF {e:Ev}(r:List Ev){n:Int}(now:Int)(h:¬((e.kind=2∨e.kind=3)/\e.n=n)):mM (e::r) n now=mM r n now:=by
 conv=>lhs;unfold mM
 rw[az h]
theorem qA {e:Ev}{r:List Ev}{now:Int}:∀ {l:List fl},(∀ x∈l,x.u=u->¬((e.kind=2∨e.kind=3)/\e.n=x.n))->tl (e::r) u now l=tl r u now l
 | [],_=>rfl
 | x::l,h=>by
   rw[o6,o6,qA λy hy=>h y fN];by_cases hu:x.u=u
   ·rw[aA hu,aA hu];have:=h x sm hu;rw[LF r now this]
   ·rw[az hu,az hu]
theorem jS {e:Ev}(r:List Ev)(h:¬(e.kind=7/\e.user=u)):mo (e::r) u=mo r u:=by
 unfold mo;rw[bL,aC h,Bool.false_or]
theorem sH {e:Ev}(r:List Ev)(now:Int)(h:¬((e.kind=1∨e.kind=2)/\e.user=u)):SL (e::r) u now=SL r u now:=by
 conv=>lhs;unfold SL
 rw[az h]
 split<;>rfl
theorem UJ {s s':St}{e}(r:List Ev)(u)(now:Int)(hi:Rc s.op)(h:kM lt s e=G s'):(QQ s (e::r) u now).Perm (QQ s' r u now):=by
 by_cases hz:mo r u=Q
 ·have h1:mo (e::r) u=Q:=by unfold mo at hz ⊢;rw[bL,hz,Bool.or_true]
  unfold QQ;rw[aA h1,aA hz];have:SL (e::r) u now=SL r u now:=by
   conv=>lhs;unfold SL
   rw[aA hz]
  rw[this]
 have hz':mo r u=z:=by simpa using hz
 unfold kM at h
 split at h
 ·
   rename_i hk
   split at h
   ·cases h
   injection h with h
   subst h;have ez:=jS r (u:=u) (e:=e) om;have os:=qA (e:=e) (r:=r) (u:=u) (now:=now) (l:=s.op) (λx _ _ hh=>by omega);unfold QQ;rw[ez,hz',az dc,az dc,os];simp only;refine List.Perm.append_left _ ?_;have p:=tW (sC s.op ⟨e.n,e.user,e.st,e.time⟩) r u now;rw[o6] at p;refine List.Perm.trans ?_ (p.symm.append_right _);by_cases hu:e.user=u
   ·have:SL (e::r) u now=⟨e.time,mM r e.n now,e.n,e.st⟩::SL r u now:=by
     conv=>lhs;unfold SL
     rw[az hz,aA ⟨.inl hk,hu⟩]
    rw[this,aA hu,show(⟨e.time,mM r e.n now,e.n,e.st⟩::SL r u now)=[⟨e.time,mM r e.n now,e.n,e.st⟩]++SL r u now from rfl,bF];rw[<-aS];refine List.Perm.append_right _ ?_;exact cZ
   ·rw[sH r now (λhh=>hu hh.2),az hu];exact .refl _
 split at h
 ·
   rename_i hk1 hk
   split at h
   ·cases h
   rename_i x hx
   split at h
   ·rename_i hxu;injection h with h
    subst h;have ez:=jS r (u:=u) (e:=e) om;unfold QQ;rw[ez,hz',az dc,az dc];simp only;obtain⟨hp,hxn⟩:=E7 hx;have hne:=NB (n:=e.n) hi;have p1:=tW hp (e::r) u now;rw[o6,qA (e:=e) (l:=tS s.op e.n) (λy hy _ hh=>hne y hy hh.2.symm)] at p1;have e1:mM (e::r) x.n now=e.time:=by unfold mM;rw[aA ⟨hk,hxn.symm⟩]
    rw[e1] at p1;by_cases hu:x.u=u
    ·have hu':e.user=u:=by rw[<-hxu];exact hu
     rw[aA hu] at p1;have p2:=Th (lt:=lt) s.us e.user (x.stay e.time);rw[hu'] at p2;rw[hu'];by_cases h2:e.kind=2
     ·rw[aA h2];have p3:=tW (yC e.st e.time hx) r u now;rw[o6,aA hu] at p3;have:SL (e::r) u now=⟨e.time,mM r e.n now,e.n,e.st⟩::SL r u now:=by
       conv=>lhs;unfold SL
       rw[az hz,aA ⟨.inr h2,hu'⟩]
      rw[this,show(⟨e.time,mM r e.n now,e.n,e.st⟩::SL r u now)=[⟨e.time,mM r e.n now,e.n,e.st⟩]++SL r u now from rfl,bF];rw[List.perm_iff_count] at p1 p2 p3 ⊢;intro au;have q1:=p1 au;have q2:=p2 au;have q3:=p3 au;simp only[List.count_append,fl.stay,hxn] at q1 q2 q3 ⊢;omega
     ·rw[az h2,sH r now om];rw[List.perm_iff_count] at p1 p2 ⊢;intro au;have q1:=p1 au;have q2:=p2 au;simp only[List.count_append] at q1 q2 ⊢;omega
    ·have hu':e.user≠u:=by rw[<-hxu];exact hu
     rw[az hu] at p1;rw[Oo _ _ hu',sH r now (by intro hh;exact hu' hh.2)];refine List.Perm.append_left _ (List.Perm.append_right _ ?_);refine p1.trans ?_;by_cases h2:e.kind=2
     ·rw[aA h2];have p3:=tW (yC e.st e.time hx) r u now;rw[o6,az hu] at p3;exact p3.symm
     ·rw[az h2];exact .refl _
   ·cases h
 have rest:∀ {t:St},e.kind≠7->t.us=s.us->t.op=s.op->(QQ s (e::r) u now).Perm (QQ t r u now):=by
  intro t h7 e1 e2;unfold QQ;rw[jS r om,e1,e2,qA (e:=e) (l:=s.op) (λx _ _=>by omega),sH r now om]
 split at h
 ·split at h
  ·cases h
  ·injection h with h;subst h;exact rest om D D
 split at h
 ·split at h
  ·injection h with h;subst h;exact rest om D D
  ·cases h
 split at h
 ·injection h with h;subst h;exact rest om D D
 split at h
 ·rename_i hk;injection h with h;subst h
  by_cases hu:e.user=u
  ·have:mo (e::r) u=Q:=by unfold mo;rw[bL,aF ⟨hk,hu⟩,Bool.true_or]
   unfold QQ;rw[this,hz',aA D,az dc,sH r now om];simp only;rw[hu,Bn];have:tl r u now (s.op.filter λx=>decide (x.u≠u))=[]:=by
    unfold tl;rw[dQ,show(λx:fl=>decide (x.u=u)&&decide (x.u≠u))=λ_=>z by funext x;by_cases hh:x.u=u<;>simp[hh]];simp
   rw[this];exact .refl _
  ·unfold QQ;rw[jS r (λhh=>hu hh.2),sH r now om];simp only;rw[xX _ hu];have:tl r u now (s.op.filter λx=>decide (x.u≠e.user))=tl r u now s.op:=by
    unfold tl;rw[dQ,show(λx:fl=>decide (x.u=u)&&decide (x.u≠e.user))=λx=>decide (x.u=u) by
     funext x;by_cases hh:x.u=u
     ·simp[hh];exact λe=>hu e.symm
     ·simp[hh]]
   rw[this,qA (e:=e) (l:=s.op) (λx _ _=>by omega)]
 ·cases h
theorem Jz:∀ (r:List Ev) (s:St) {s':St} (u:ay) (now:Int),Rc s.op->runs lt ok s r=G s'->(QQ s r u now).Perm (SS s' u now)
 | [],s,s',u,now,_,h=>by
   injection h with h;subst h
   unfold QQ SS;rw[az (by simp[mo])];simp[SL]
 | e::r,s,s',u,now,hi,h=>by
   unfold runs at h;cases hs:ft lt ok s e with
   | none=>rw[hs] at h;cases h
   | some t=>
    rw[hs] at h;unfold ft at hs
    split at hs
    ·exact(UJ r u now hi hs).trans (Jz r t u now (Ue hi hs) h)
    ·cases hs
theorem Gf {r}{s'}(u)(now:Int)(h:runs lt ok St.zero r=G s'):((SL r u now).filter eP.ok).Perm (SS s' u now):=by
 have:=Jz r St.zero u now .nil h;unfold QQ at this
 split at this
 ·exact this
 ·simpa[St.zero,kR,tl] using this
end
def je (n:Int):Bool->List Int->List Int
 | d,[]=>if d=Q then [] else [n]
 | d,x::r=>if(d||decide (x=n))=z/\n<x then n::x::je n Q r else x::je n (d||decide (x=n)) r
def kZ (l:List fm):List Int:=l.foldl (λo s=>je s.b z (je s.a z o)) []
def fY (l:List fm)(t:Int):Bool:=l.any λs=>decide (s.a<=t/\t<s.b)
def kW (l:List fm)(s:fm):List fm:=
 match l.getLast? with
 | some x=>if x.b=s.a then l.dropLast++[⟨x.a,s.b⟩] else l++[s]
 | none=>[s]
def mF (l:List fm):List fm->List Int->List fm
 | out,x::y::r=>mF l (if fY l x then kW out ⟨x,y⟩ else out) (y::r)
 | out,_=>out
def fq (l:List fm):List fm:=mF l [] (kZ l)
def Sep (l:List fm):Prop:=(∀ s∈l,s.a<s.b)/\l.Pairwise λx y=>x.b<y.a
theorem qs (n:Int):∀ (l:List Int) (d:Bool) (au:Int),au∈je n d l↔au∈l∨(au=n/\(d=z∨n∈l))
 | [],d,au=>by cases d<;>simp[je]
 | x::r,d,au=>by
   unfold je
   split
   ·rename_i h;have:=qs n r Q au;simp only[aE,this];cases d
    ·simp;grind
    ·simp at h
   ·rename_i h;have:=qs n r (d||decide (x=n)) au;simp only[aE,this];by_cases hx:x=n
    ·subst hx;cases d<;>simp<;>grind
    ·cases d<;>simp[hx]<;>grind
theorem Bh (n:Int):∀ (l:List Int) (d:Bool),(∀ x∈l,d=Q->n<=x∨True)->l.Pairwise (· < ·)->(d=Q->∀ x∈l,n<x∨n∉l)->(je n d l).Pairwise (· < ·)
 | [],d,_,_,_=>by cases d<;>simp[je]
 | x::r,d,_,h,hd=>by
   have k:=aa3.1 h;unfold je
   split
   ·rename_i hh;have hs:je n Q r=r:=by
     have:∀ (l:List Int),n∉l->je n Q l=l:=by
      intro l
      induction l with
      | nil=>intro _;rfl
      | cons a t ih=>intro hm;unfold je;simp at hm;simp[ih hm.2]
     refine this r λhm=>?_;have:=k.1 n hm;omega
    rw[hs];refine aa3.2 ⟨λy hy=>?_,h⟩;rcases aE.1 hy with rfl | hy
    ·exact hh.2
    ·have:=k.1 y hy;omega
   ·rename_i hh;refine aa3.2 ⟨λy hy=>?_,Bh n r _ sm k.2 ?_⟩
    ·rcases(qs n r _ y).1 hy with hy | ⟨rfl,hy⟩
     ·exact k.1 y hy
     ·rcases hy with hy | hy
      ·have hx:x≠y:=by intro e;simp[e] at hy
       rw[hy] at hh;simp at hh;omega
      ·exact k.1 y hy
    ·intro _ y hy;by_cases hm:n∈r
     ·have hx:=k.1 n hm;cases d with
      | false=>
       have:(decide (x=n))=z:=by simp;omega
       simp[this] at*
      | true=>
       rcases hd D x sm with h1 | h1
       ·omega
       ·exact absurd (cV _ hm) h1
     ·exact aI hm
theorem vq:∀ (l:List fm) (o:List Int),o.Pairwise (· < ·)->(l.foldl (λo s=>je s.b z (je s.a z o)) o).Pairwise (· < ·)/\(∀ au,au∈l.foldl (λo s=>je s.b z (je s.a z o)) o↔au∈o∨∃ s∈l,au=s.a∨au=s.b)
 | [],o,h=>⟨h,λau=>by simp⟩
 | s::r,o,h=>by
   have h1:=Bh s.a o z sm h sm;have h2:=Bh s.b _ z sm h1 sm;obtain⟨i1,i2⟩:=vq r _ h2;refine⟨i1,λau=>?_⟩;rw[dj,i2,qs,qs];simp
   grind
theorem Jk (l):(kZ l).Pairwise (· < ·):=(vq l [] .nil).1
theorem um (l)(au:Int):au∈kZ l↔∃ s∈l,au=s.a∨au=s.b:=by
 have:=(vq l [] .nil).2 au;simpa[kZ] using this
theorem iY {l}{t:Int}:fY l t=Q↔∃ s∈l,s.a<=t/\t<s.b:=by simp[fY]
theorem Pw {l:List fm}{x au:Int}(hx:x<=au)(h:∀ s∈l,¬(x<s.a/\s.a<=au)/\¬(x<s.b/\s.b<=au)):fY l au=fY l x:=by
 rw[cv,iY,iY];constructor
 all_goals
  rintro⟨s,hs,h1,h2⟩;have:=h s hs;exact⟨s,hs,om,om⟩
theorem pM (l m:List fm)(t:Int):fY (l++m) t=(fY l t||fY m t):=by simp[fY]
theorem Lm {out}{x y:Int}(hs:Sep out)(hl:∀ s∈out,s.b<=x)(hxy:x<y):
 Sep (kW out ⟨x,y⟩)/\(∀ s∈kW out ⟨x,y⟩,s.b<=y)/\∀ t,fY (kW out ⟨x,y⟩) t=(fY out t||decide (x<=t/\t<y)):=by
 rcases dI out with rfl | ⟨r,au,rfl⟩
 ·refine⟨⟨by simp[kW];omega,by simp[kW]⟩,by simp[kW],λt=>by simp[kW,fY]⟩
 ·unfold kW;rw[dz,List.getLast?_concat];simp only;obtain⟨h1,h2⟩:=hs;rw[dz] at h1 h2 hl;have hp:=aa8.1 h2;obtain⟨hz,hzb⟩:=xV h1 hl au sm
  split
  ·rename_i hb;rw[List.dropLast_concat];refine⟨⟨λs hs=>?_,aa8.2 ⟨hp.1,sm,λa ha b hb'=>?_⟩⟩,λs hs=>?_,λt=>?_⟩
   ·rcases bG.1 hs with hs | hs
    ·exact h1 s (by simp[hs])
    ·simp at hs;subst hs;simp;omega
   ·simp at hb';subst hb';exact hp.2.2 a ha au sm
   ·rcases bG.1 hs with hs | hs
    ·have:=hl s (by simp[hs]);omega
    ·simp at hs;subst hs;simp
   ·rw[pM,pM];simp only[fY,bL,List.any_nil,Bool.or_false,Bool.or_assoc]
    congr 1
    rw[cv];simp;omega
  ·rename_i hb;refine⟨⟨λs hs=>?_,aa8.2 ⟨h2,sm,λa ha b hb'=>?_⟩⟩,λs hs=>?_,λt=>?_⟩
   ·rcases bG.1 hs with hs | hs
    ·exact h1 s hs
    ·simp at hs;subst hs;simpa using hxy
   ·simp at hb';subst hb';rcases bG.1 ha with ha | ha
    ·have:=hp.2.2 a ha au sm;simp;omega
    ·simp at ha;subst ha;simp at hb ⊢;omega
   ·rcases bG.1 hs with hs | hs
    ·have:=hl s hs;omega
    ·simp at hs;subst hs;simp
   ·rw[pM];simp[fY]
theorem xr (l:List fm):∀ (ak:List Int) (out:List fm),ak.Pairwise (· < ·)->Sep out->(∀ s∈out,∀ x∈ak.head?,s.b<=x)->
 (∀ s∈l,∀ x∈ak.head?,(x<=s.a->s.a∈ak)/\(x<=s.b->s.b∈ak))->(∀ t,∀ x∈ak.head?,t<x->fY l t=fY out t)->(ak=[]->∀ t,fY l t=fY out t)->
 Sep (mF l out ak)/\∀ t,fY (mF l out ak) t=fY l t
 | [],out,_,hs,_,_,_,h=>⟨hs,λt=>(h D t).symm⟩
 | [x],out,_,hs,hl,hm,hb,_=>by
   refine⟨hs,λt=>?_⟩;by_cases ht:t<x
   ·exact(hb t x sm ht).symm
   ·have h1:fY out t=z:=by
     rw[dm];intro h;obtain⟨s,hs,h1,h2⟩:=iY.1 h;have:=hl s hs x sm;omega
    have h2:fY l t=z:=by
     rw[dm];intro h;obtain⟨s,hs,h1,h2⟩:=iY.1 h;have:=(hm s hs x sm).2 om;simp at this;omega
    show fY out t=_;rw[h1,h2]
 | x::y::r,out,hE,hs,hl,hm,hb,_=>by
   have k:=aa3.1 hE;have hxy:x<y:=k.1 y sm;have hg:=Lm hs (λs hs=>hl s hs x sm) hxy;have hout:∀ t,x<=t->fY out t=z:=by
    intro t ht;rw[dm];intro h;obtain⟨s,hs,h1,h2⟩:=iY.1 h;have:=hl s hs x sm;omega
   have hmid:∀ t,x<=t->t<y->fY l t=fY l x:=by
    intro t h1 h2;refine Pw h1 λs hs=>?_;have hh:=hm s hs x sm;constructor
    ·rintro⟨h3,h4⟩;have hmem:=hh.1 om;rcases aE.1 hmem with e | hmem
     ·omega
     ·have hy:y<=s.a:=by
       rcases aE.1 hmem with e | hmem
       ·omega
       ·have:=(aa3.1 k.2).1 _ hmem;omega
      omega
    ·rintro⟨h3,h4⟩;have hmem:=hh.2 om;rcases aE.1 hmem with e | hmem
     ·omega
     ·have hy:y<=s.b:=by
       rcases aE.1 hmem with e | hmem
       ·omega
       ·have:=(aa3.1 k.2).1 _ hmem;omega
      omega
   have hm':∀ s∈l,∀ au∈(y::r).head?,(au<=s.a->s.a∈y::r)/\(au<=s.b->s.b∈y::r):=by
    intro s hs au hz;simp at hz;subst hz;have hh:=hm s hs x sm;constructor
    ·intro h;rcases aE.1 (hh.1 om) with e | h
     ·omega
     ·exact h
    ·intro h;rcases aE.1 (hh.2 om) with e | h
     ·omega
     ·exact h
   unfold mF;refine xr l (y::r) _ k.2 ?_ ?_ hm' ?_ sm
   ·split
    ·exact hg.1
    ·exact hs
   ·intro s hs au hz;simp at hz;subst hz
    split at hs
    ·exact hg.2.1 s hs
    ·have:=hl s hs x sm;omega
   ·intro t au hz ht;simp at hz;subst hz;by_cases hx:t<x
    ·have h0:=hb t x sm hx
     split
     ·rw[hg.2.2,h0,aC om,Bool.or_false]
     ·exact h0
    ·rw[hmid t om ht]
     split
     ·rename_i h;rw[hg.2.2,h,aF om,Bool.or_true]
     ·rename_i h;rw[hout t om];simpa using h
theorem lF (l):Sep (fq l)/\∀ t,fY (fq l) t=fY l t:=by
 unfold fq;refine xr l (kZ l) [] (Jk l) ⟨sm,.nil⟩ sm ?_ ?_ ?_
 ·intro s hs x _;exact⟨λ_=>(um l _).2 ⟨s,hs,.inl D⟩,λ_=>(um l _).2 ⟨s,hs,.inr D⟩⟩
 ·intro t x hx ht;have hx':∀ au∈kZ l,x<=au:=by
   cases hE:kZ l with
   | nil=>simp
   | cons a r=>
    rw[hE] at hx;simp at hx;subst hx;have:=aa3.1 (hE▸Jk l);intro au hz;rcases aE.1 hz with rfl | hz
    ·omega
    ·have:=this.1 au hz;omega
  show _=z;rw[dm];intro h;obtain⟨s,hs,h1,h2⟩:=iY.1 h;have:=hx' s.a ((um l _).2 ⟨s,hs,.inl D⟩);omega
 ·intro hE t;show _=z;rw[dm];intro h;obtain⟨s,hs,h1,h2⟩:=iY.1 h;have:=(um l s.a).2 ⟨s,hs,.inl D⟩;rw[hE] at this;cases this
theorem Nr {N}(hN:Sep N){a:Int}:∀ (n:Nat),(∀ t,a<=t->t<a+(n+1:Nat)->fY N t=Q)->∃ s∈N,s.a<=a/\a+(n+1:Nat)<=s.b
 | 0,h=>by
   obtain⟨s,hs,h1,h2⟩:=iY.1 (h a om om);exact⟨s,hs,h1,om⟩
 | n+1,h=>by
   obtain⟨s,hs,h1,h2⟩:=Nr hN n (λt h1 h2=>h t h1 om);by_cases hb:a+(n+1+1:Nat)<=s.b
   ·exact⟨s,hs,h1,hb⟩
   ·obtain⟨s',hs',k1,k2⟩:=iY.1 (h (a+(n+1:Nat)) om om);exfalso;have hne:s≠s':=by intro e;subst e;omega
    have:s.b<s'.a∨s'.b<s.a:=by
     have hp:=hN.2;rw[ab9] at hp;obtain⟨i,hi,rfl⟩:=ab5.1 hs;obtain⟨j,hj,rfl⟩:=ab5.1 hs';rcases dY i j with hij | hij | hij
     ·exact .inl (hp i j hi hj hij)
     ·subst hij;exact absurd D hne
     ·exact .inr (hp j i hj hi hij)
    omega
theorem sY {N T}(hN:Sep N)(hT:Sep T)(h:∀ t,fY T t=Q->fY N t=Q):∀ t∈T,t.a<t.b/\∃ n∈N,n.a<=t.a/\t.b<=n.b:=by
 intro t ht;have h0:=hT.1 t ht;obtain⟨n,hn⟩:∃ n:Nat,t.b=t.a+(n+1:Nat):=⟨(t.b - t.a - 1).toNat,om⟩;refine⟨h0,?_⟩;rw[hn];exact Nr hN n λau h1 h2=>h au (iY.2 ⟨t,ht,h1,om⟩)
theorem Ns:∀ {N T:List fm},Sep N->Sep T->(∀ t,fY N t=fY T t)->N=T
 | [],[],_,_,_=>rfl
 | [],t::r,_,hT,h=>by
   have:=(h t.a).symm;rw[iY.2 ⟨t,sm,om,hT.1 t sm⟩] at this;simp[fY] at this
 | n::r,[],hN,_,h=>by
   have:=h n.a;rw[iY.2 ⟨n,sm,om,hN.1 n sm⟩] at this;simp[fY] at this
 | n::r,t::q,hN,hT,h=>by
   obtain⟨t1,m1,a1,b1⟩:=(sY hT hN (λau hz=>by rw[<-h];exact hz) n sm).2;obtain⟨n1,m2,a2,b2⟩:=(sY hN hT (λau hz=>by rw[h];exact hz) t sm).2;have kn:=aa3.1 hN.2;have kt:=aa3.1 hT.2;have hn:=hN.1 n sm;have ht:=hT.1 t sm;have e1:t1=t:=by
    rcases aE.1 m1 with e | m1
    ·exact e
    ·exfalso;have:=kt.1 t1 m1;rcases aE.1 m2 with e | m2
     ·subst e;omega
     ·have:=kn.1 n1 m2;omega
   have e2:n1=n:=by
    rcases aE.1 m2 with e | m2
    ·exact e
    ·exfalso;have:=kn.1 n1 m2;subst e1;omega
   subst e1 e2;have e:n1=t1:=by
    obtain⟨x,y⟩:=n1;obtain⟨x',y'⟩:=t1;simp at a1 b1 a2 b2 ⊢;omega
   subst e
   congr 1
   refine Ns ⟨λs hs=>hN.1 s (by simp[hs]),kn.2⟩ ⟨λs hs=>hT.1 s (by simp[hs]),kt.2⟩ λau=>?_;have:=h au;simp only[fY,bL] at this ⊢;by_cases hz:n1.a<=au/\au<n1.b
   ·have f1:(r.any λs=>decide (s.a<=au/\au<s.b))=z:=by
     rw[List.any_eq_false];intro s hs;have:=kn.1 s hs;simp;omega
    have f2:(q.any λs=>decide (s.a<=au/\au<s.b))=z:=by
     rw[List.any_eq_false];intro s hs;have:=kt.1 s hs;simp;omega
    rw[f1,f2]
   ·rw[aC hz] at this;simpa using this
theorem J5 {N}(h:Sep N):FC N:=h.2.imp λh=>by omega
def mT:List Ev->ay->ay->Int
 | [],_,_=>FE
 | e::r,w,u=>if e.kind=5/\e.user=w/\e.other=u then e.time else mT r w u
def PL:List Ev->ay->ay->List fm
 | [],_,_=>[]
 | e::r,w,u=>if mo r w=Q∨mo r u=Q then PL r w u else if e.kind=4/\e.user=w/\e.other=u then⟨e.time,mT r w u⟩::PL r w u else PL r w u
def kP (l:List Sub)(w u:ay):List fm:=(l.filter λx=>decide (x.w=w/\x.u=u)).map λx=>⟨x.a,x.b⟩
def oU (r:List Ev)(w u:ay)(l:List Sub):List fm:=((l.filter λx=>decide (x.w=w/\x.u=u)).map λx=>⟨x.a,if x.b=FE then mT r w u else x.b⟩).filter fm.ok
def PQ (s:St)(r:List Ev)(w u:ay):List fm:=if mo r w=Q∨mo r u=Q then(PL r w u).filter fm.ok else oU r w u s.sb++(PL r w u).filter fm.ok
abbrev XY (l:List Sub):Prop:=l.Pairwise λx y=>¬(x.w=y.w/\x.u=y.u/\x.b=FE/\y.b=FE)
section
variable {lt:ay->ay->Bool}{ok:Ev->Bool}
theorem pe:∀ (l:List Sub) (x:Sub),(qe lt l x).Perm (x::l)
 | [],_=>.refl _
 | y::r,x=>by
   unfold qe
   split
   ·exact .refl _
   ·exact((pe r x).cons y).trans (.swap x y r)
theorem VM {x y:Sub}(h:¬(x.w=y.w/\x.u=y.u/\x.b=FE/\y.b=FE)):¬(y.w=x.w/\y.u=x.u/\y.b=FE/\x.b=FE):=λk=>h ⟨k.1.symm,k.2.1.symm,k.2.2.2,k.2.2.1⟩
theorem wk {l m:List Sub}(h:l.Perm m)(hl:XY l):XY m:=h.pairwise hl VM
theorem su {l m:List Sub}(h:l.Perm m)(r)(w u):(oU r w u l).Perm (oU r w u m):=((h.filter _).map _).filter _
theorem oZ (r)(w u)(x:Sub)(l:List Sub):oU r w u (x::l)=(if x.w=w/\x.u=u then [(⟨x.a,if x.b=FE then mT r w u else x.b⟩:fm)] else []).filter fm.ok++oU r w u l:=by
 unfold oU;by_cases h:x.w=w/\x.u=u
 ·rw[bS fF,aA h,bC,<-bF,ee]
 ·rw[bQ fc,az h];rfl
theorem Ly {e:Ev}(r:List Ev){w:ay}(h:¬(e.kind=5/\e.user=w/\e.other=u)):mT (e::r) w u=mT r w u:=by
 conv=>lhs;unfold mT
 rw[az h]
theorem wW {e:Ev}(r:List Ev){w:ay}(h:¬(e.kind=4/\e.user=w/\e.other=u)):PL (e::r) w u=PL r w u:=by
 conv=>lhs;unfold PL
 rw[az h]
 split<;>rfl
theorem uU {e:Ev}(r:List Ev){w:ay}(h:¬(e.kind=5/\e.user=w/\e.other=u))(l):oU (e::r) w u l=oU r w u l:=by
 unfold oU;rw[Ly r h]
theorem xB:∀ {l:List Sub} {w u:ay} (t:Int),yu l w u=Q->∃ y R,l.Perm (y::R)/\y.w=w/\y.u=u/\y.b=FE/\(yV l w u t).Perm ((if y.a<t then [(⟨y.w,y.u,y.a,t⟩:Sub)] else [])++R)
 | [],_,_,_,h=>by simp[yu] at h
 | y::r,w,u,t,h=>by
   unfold yV;by_cases hy:Sub.ou w u y=Q
   ·have:=hy;simp[Sub.ou] at this;refine⟨y,r,.refl _,this.1,this.2.1,this.2.2,?_⟩;rw[aA hy]
    split<;>exact .refl _
   ·obtain⟨au,R,h1,h2,h3,h4,h5⟩:=xB (l:=r) (w:=w) (u:=u) t (by simpa[yu,hy] using h);refine⟨au,y::R,(h1.cons y).trans (.swap au y R),h2,h3,h4,?_⟩;rw[az hy];exact(h5.cons y).trans (List.perm_middle (a:=y)).symm
theorem Ud {s s':St}{e:Ev}(ht:e.time<FE)(hi:XY s.sb)(h:kM lt s e=G s'):XY s'.sb:=by
 unfold kM at h
 split at h
 ·split at h
  ·cases h
  ·exact aaM
 split at h
 ·split at h
  ·cases h
  ·split at h
   ·exact aaM
   ·cases h
 split at h
 ·split at h
  ·cases h
  ·rename_i hf;injection h with h;rw[<-h]
   refine wk (pe _ _).symm (aa3.2 ⟨λy hy hh=>?_,hi⟩);apply hf;unfold yu;rw[dB];exact⟨y,hy,by simp[Sub.ou,<-hh.1,<-hh.2.1,hh.2.2.2]⟩
 split at h
 ·split at h
  ·rename_i hf;injection h with h;rw[<-h]
   obtain⟨y,R,h1,h2,h3,h4,h5⟩:=xB e.time hf;have hp:=wk h1 hi;have k:=aa3.1 hp;refine wk h5.symm ?_
   split
   ·refine aa3.2 ⟨λau hz hh=>?_,k.2⟩;have:=hh.2.2.1;simp at this;omega
   ·exact k.2
  ·cases h
 split at h
 ·exact aaM
 split at h
 ·injection h with h;rw[<-h];exact hi.filter _
 ·cases h
theorem UK {s s':St}{e:Ev}(r:List Ev)(w u)(ht:e.time<FE)(hi:XY s.sb)(h:kM lt s e=G s'):(PQ s (e::r) w u).Perm (PQ s' r w u):=by
 have ecase:∀ v,mo r v=Q->mo (e::r) v=Q:=λv h=>by unfold mo at h ⊢;rw[bL,h,Bool.or_true]
 by_cases hz:mo r w=Q∨mo r u=Q
 ·have h1:mo (e::r) w=Q∨mo (e::r) u=Q:=hz.imp (ecase w) (ecase u);unfold PQ;rw[aA h1,aA hz];have:PL (e::r) w u=PL r w u:=by
   conv=>lhs;unfold PL
   rw[aA hz]
  rw[this]
 have rest:∀ {t:St},e.kind≠7->¬(e.kind=4/\e.user=w/\e.other=u)->¬(e.kind=5/\e.user=w/\e.other=u)->(oU r w u s.sb).Perm (oU r w u t.sb)->(PQ s (e::r) w u).Perm (PQ t r w u):=by
  intro t h7 h4 h5 hp;unfold PQ;rw[jS r om,jS r om,az hz,az hz,wW r h4,uU r h5];exact hp.append_right _
 unfold kM at h
 split at h
 ·split at h
  ·cases h
  ·injection h with h;subst h;exact rest om om om (.refl _)
 split at h
 ·split at h
  ·cases h
  ·split at h
   ·injection h with h;subst h;exact rest om om om (.refl _)
   ·cases h
 split at h
 ·rename_i hk
  split at h
  ·cases h
  ·injection h with h;subst h
   have p:=su (pe (lt:=lt) s.sb ⟨e.user,e.other,e.time,FE⟩) r w u;rw[oZ] at p;by_cases hp:e.user=w/\e.other=u
   ·rw[aA hp] at p;unfold PQ;rw[jS r om,jS r om,az hz,az hz,uU r om];have:PL (e::r) w u=⟨e.time,mT r w u⟩::PL r w u:=by
     conv=>lhs;unfold PL
     rw[az hz,aA ⟨hk,hp⟩]
    rw[this,show(⟨e.time,mT r w u⟩::PL r w u)=[⟨e.time,mT r w u⟩]++PL r w u from rfl,bF];rw[List.perm_iff_count] at p ⊢;intro au;have q:=p au;simp only[List.count_append,if_true] at q ⊢;omega
   ·rw[az hp] at p;exact rest om (λh=>hp h.2) om p.symm
 split at h
 ·rename_i hk
  split at h
  ·rename_i hf;injection h with h;subst h
   obtain⟨y,R,h1,h2,h3,h4,h5⟩:=xB e.time hf;have k:=(aa3.1 (wk h1 hi)).1;have p1:=su h1 (e::r) w u;have p2:=su h5 r w u;by_cases hp:e.user=w/\e.other=u
   ·unfold PQ;rw[jS r om,jS r om,az hz,az hz,wW r om];refine List.Perm.append_right _ ?_;refine p1.trans (.trans ?_ p2.symm);have hR:oU (e::r) w u R=oU r w u R:=by
     unfold oU
     congr 1
     refine dV λx hx=>?_;have hx':=aa9.1 hx;have hxk:=k x hx'.1;have hxp:=hx'.2;simp at hxp;have hb:x.b≠FE:=λhb=>hxk ⟨by rw[h2,hxp.1,hp.1],by rw[h3,hxp.2,hp.2],h4,hb⟩;rw[az hb,az hb]
    rw[oZ,hR,aA ⟨h2.trans hp.1,h3.trans hp.2⟩,aA h4];have e1:mT (e::r) w u=e.time:=by unfold mT;rw[aA ⟨hk,hp⟩]
    rw[e1];by_cases ha:y.a<e.time
    ·rw[aA ha,ee,oZ,aA ⟨h2.trans hp.1,h3.trans hp.2⟩,az eC]
    ·rw[az ha,bO,bQ (by simp[fm.ok];omega)];exact .refl _
   ·refine rest om om (λh=>hp h.2) ?_;have p1':=su h1 r w u;refine p1'.trans (.trans ?_ p2.symm);have hny:¬(y.w=w/\y.u=u):=λh=>hp ⟨h2.symm.trans h.1,h3.symm.trans h.2⟩;rw[oZ,az hny]
    split
    ·rw[ee,oZ,az hny]
    ·exact .refl _
  ·cases h
 split at h
 ·injection h with h;subst h;exact rest om om om (.refl _)
 split at h
 ·rename_i hk;injection h with h;subst h
  by_cases hu:e.user=w∨e.user=u
  ·have:mo (e::r) w=Q∨mo (e::r) u=Q:=by
    unfold mo;rw[bL,bL];rcases hu with hu | hu
    ·left;rw[aF ⟨hk,hu⟩,Bool.true_or]
    ·right;rw[aF ⟨hk,hu⟩,Bool.true_or]
   unfold PQ;rw[aA this,az hz,wW r om];have:oU r w u (s.sb.filter λx=>decide (x.w≠e.user/\x.u≠e.user))=[]:=by
    unfold oU;rw[dQ,show(λx:Sub=>decide (x.w=w/\x.u=u)&&decide (x.w≠e.user/\x.u≠e.user))=λ_=>z by
     funext x
     rcases hu with hu | hu
     ·by_cases hh:x.w=w<;>simp[hh,hu]
     ·by_cases hh:x.u=u<;>simp[hh,hu]]
    simp
   rw[this];exact .refl _
  ·simp only[bN] at hu;unfold PQ;rw[jS r (λhh=>hu.1 hh.2),jS r (λhh=>hu.2 hh.2),az hz,az hz,wW r om,uU r om];have:oU r w u (s.sb.filter λx=>decide (x.w≠e.user/\x.u≠e.user))=oU r w u s.sb:=by
    unfold oU;rw[dQ,show(λx:Sub=>decide (x.w=w/\x.u=u)&&decide (x.w≠e.user/\x.u≠e.user))=λx=>decide (x.w=w/\x.u=u) by
     funext x
     by_cases hh:x.w=w/\x.u=u
     ·simp[hh];exact⟨λe=>hu.1 e.symm,λe=>hu.2 e.symm⟩
     ·simp[hh]]
   rw[this]
 ·cases h
theorem JA (hok:∀ e,ok e=Q->e.time<FE):∀ (r:List Ev) (s:St) {s':St} (w u:ay),XY s.sb->runs lt ok s r=G s'->(PQ s r w u).Perm ((kP s'.sb w u).filter fm.ok)
 | [],s,s',w,u,_,h=>by
   injection h with h;subst h
   unfold PQ oU kP;rw[az (by simp[mo])];have:(λx:Sub=>(⟨x.a,if x.b=FE then mT [] w u else x.b⟩:fm))=λx=>⟨x.a,x.b⟩:=by
    funext x
    by_cases h:x.b=FE
    ·rw[aA h];simp[mT,h]
    ·rw[az h]
   rw[this];simp[PL]
 | e::r,s,s',w,u,hi,h=>by
   unfold runs at h;cases hs:ft lt ok s e with
   | none=>rw[hs] at h;cases h
   | some t=>
    rw[hs] at h;unfold ft at hs
    split at hs
    ·rename_i ho;have ht:=hok e ho.1;exact(UK r w u ht hi hs).trans (JA hok r t w u (Ud ht hi hs) h)
    ·cases hs
theorem tr (l:List fm)(t:Int):fY (l.filter fm.ok) t=fY l t:=by
 rw[cv,iY,iY];constructor
 ·rintro⟨s,hs,h⟩;exact⟨s,(aa9.1 hs).1,h⟩
 ·rintro⟨s,hs,h⟩;exact⟨s,aa9.2 ⟨hs,by simp[fm.ok];omega⟩,h⟩
theorem EH {l m:List fm}(h:l.Perm m)(t:Int):fY l t=fY m t:=by
 rw[cv,iY,iY];exact⟨λ⟨s,hs,k⟩=>⟨s,h.mem_iff.1 hs,k⟩,λ⟨s,hs,k⟩=>⟨s,h.mem_iff.2 hs,k⟩⟩
theorem Kk (hok:∀ e,ok e=Q->e.time<FE){r}{s'}(w u)(h:runs lt ok St.zero r=G s')(t:Int):fY (PL r w u) t=fY (kP s'.sb w u) t:=by
 have p:=JA hok r St.zero w u .nil h;rw[<-tr,<-tr (kP _ _ _),<-EH p];unfold PQ
 split
 ·rfl
 ·simp[St.zero,oU]
end
theorem Rs {X1 X2 Y1 Y2 M1 M2:List eP}(hX:fZ (X1++X2))(hY:fZ (Y1++Y2))(h1:∀ x∈X1,∀ y∈Y2,y.lt x=z)(h2:∀ y∈Y1,∀ x∈X2,x.lt y=z)
 (p1:M1.Perm (X1++Y1)) (p2:M2.Perm (X2++Y2)) (u1:fZ M1) (u2:fZ M2):fZ (M1++M2)/\(M1++M2).Perm ((X1++X2)++(Y1++Y2)):=by
 have kX:=aa8.1 hX;have kY:=aa8.1 hY;refine⟨aa8.2 ⟨u1,u2,λx hx y hy=>?_⟩,?_⟩
 ·have hx:=p1.mem_iff.1 hx;have hy:=p2.mem_iff.1 hy;rcases bG.1 hx with hx | hx<;>rcases bG.1 hy with hy | hy
  ·exact kX.2.2 x hx y hy
  ·exact h1 x hx y hy
  ·exact h2 x hx y hy
  ·exact kY.2.2 x hx y hy
 ·refine(p1.append p2).trans ?_;simp only[aS];refine List.Perm.append_left X1 ?_;rw[<-aS,<-aS];exact List.Perm.append_right Y2 cZ
theorem MG {X}(h:fZ X)(hij:i<=j)(hj:j<X.length):(X[j]).lt (X[i])=z:=by
 rcases bZ i j with hlt | hge
 ·exact ab9.1 h i j om hj hlt
 ·have:i=j:=om;subst this;exact KC _
theorem wM {X Y}(hX:fZ X)(hY:fZ Y)(hk:k<=X.length)(h:∀ (h0:0<k) (hj:j<Y.length),(Y[j]).lt (X[k - 1])=z):
 ∀ x∈X.take k,∀ y∈Y.drop j,y.lt x=z:=by
 intro x hx y hy;obtain⟨i,hi,rfl⟩:=ab5.1 hx;obtain⟨q,hq,rfl⟩:=ab5.1 hy;rw[aK] at hi;rw[bm] at hq;rw[List.getElem_take,List.getElem_drop];have hi2:i<=k - 1:=om;have h0:=h om om;exact le_trans (le_trans (MG hX hi2 om) h0) (MG hY (Nat.le_add_right j q) om)
theorem T9 {X Y}(hX:fZ X)(hY:fZ Y)(hj:j<=Y.length)(h:∀ (_h0:0<j) (hk:k<X.length),(Y[j - 1]).lt (X[k])=Q):
 ∀ y∈Y.take j,∀ x∈X.drop k,x.lt y=z:=
 wM hY hX hj λh0 hk=>mw (h h0 hk)
inductive uC (n:Nat):List eP->Prop
 | last (M:List eP):fZ M->M.length<=n->uC n M
 | cons (M R:List eP):fZ M->M.length=n->uC n R->uC n (M++R)
theorem uC.split{R}(h:uC n R)(hn:n<=R.length):∃ X R',R=X++R'/\X.length=n/\fZ X/\uC n R':=by
 cases h with
 | last M hu hl=>exact⟨R,[],sm,om,hu,.last [] .nil sm⟩
 | cons M R hu hl hr=>exact⟨M,R,D,hl,hu,hr⟩
theorem uC.one{R}(h:uC n R)(hn:R.length<=n):fZ R:=by
 cases h with
 | last M hu hl=>exact hu
 | cons M R hu hl hr=>
  have:R=[]:=by
   rw[aU] at hn;exact aa6.1 om
  rw[this,aY];exact hu
def Rk (n:Nat)(A:List eP):Prop:=∀ R,uC n R->uC n (A++R)
theorem Rk.nil:Rk n []:=λ_ h=>h
theorem Rk.snoc{A M}(h:Rk n A)(hu:fZ M)(hl:M.length=n):Rk n (A++M):=λR hR=>by
 rw[aS];exact h _ (.cons M R hu hl hR)
theorem VI {M1 M2:List eP}{x:eP}(h:fZ (M1++M2))(h2:∀ y∈M2,x.lt y=Q)(h1:∀ y,M1.getLast?=G y->x.lt y=z):fZ (M1++x::M2):=by
 have k:=aa8.1 h;refine aa8.2 ⟨k.1,aa3.2 ⟨λy hy=>mw (h2 y hy),k.2.1⟩,λy hy au hz=>?_⟩;have hl:∀ y∈M1,x.lt y=z:=by
  intro y hy;rcases dI M1 with e | ⟨A,b,e⟩
  ·rw[e] at hy;cases hy
  ·rw[dz] at e;have hb:=h1 b (by rw[e];simp);rw[e] at hy k;rcases bG.1 hy with hy | hy
   ·exact le_trans ((aa8.1 k.1).2.2 y hy b sm) hb
   ·rw[bP] at hy;rw[hy];exact hb
 rcases aE.1 hz with rfl | hz
 ·exact hl y hy
 ·exact k.2.2 y hy au hz
def swp (L:List eP)(i j:Nat):List eP:=match L[i]?,L[j]? with
 | some x,G y=>(L.set i y).set j x
 | _,_=>L
theorem wi {P S:List eP}{x y:eP}(hi:i=P.length):(P++x::S).set i y=P++y::S:=by
 subst hi;rw[List.set_append_right _ _ (aB _),cr,eA]
theorem iQ {P S:List eP}{x:eP}(hi:i=P.length):(P++x::S)[i]?=G x:=by
 subst hi;rw[er (aB _),cr,List.getElem?_cons_zero]
theorem Ia {P ar S:List eP}{x y:eP}(hi:i=P.length)(hj:j=P.length+1+ar.length):swp (P++x::(ar++y::S)) i j=P++y::(ar++x::S):=by
 have e1:(P++x::(ar++y::S))[i]?=G x:=iQ hi;have e2:P++x::(ar++y::S)=(P++x::ar)++y::S:=sm;have hj':j=(P++x::ar).length:=by rw[hj];simp;omega
 have e3:(P++x::(ar++y::S))[j]?=G y:=by rw[e2];exact iQ hj'
 unfold swp;rw[e1,e3];show((P++x::(ar++y::S)).set i y).set j x=_;rw[wi hi];have e4:P++y::(ar++y::S)=(P++y::ar)++y::S:=sm;rw[e4,wi (by rw[hj];simp;omega)];simp
theorem C8 {P ar S:List eP}{x y:eP}(hi:i=P.length)(hj:j=P.length+1+ar.length):swp (P++x::(ar++y::S)) j i=P++y::(ar++x::S):=by
 have e1:(P++x::(ar++y::S))[i]?=G x:=iQ hi;have e2:P++x::(ar++y::S)=(P++x::ar)++y::S:=sm;have hj':j=(P++x::ar).length:=by rw[hj];simp;omega
 have e3:(P++x::(ar++y::S))[j]?=G y:=by rw[e2];exact iQ hj'
 unfold swp;rw[e1,e3];show((P++x::(ar++y::S)).set j x).set i y=_;rw[e2,wi hj'];have e4:(P++x::ar)++x::S=P++x::(ar++x::S):=sm;rw[e4,wi hi]
section
variable {α:Type}(k:α->ay)(lt:ay->ay->Bool)
def pH:List α->ay->Nat
 | [],_=>0
 | y::r,u=>if lt (k y) u then pH r u+1 else 0
abbrev Ord (l:List α):Prop:=l.Pairwise λx y=>lt (k x) (k y)=Q
structure Fz:Prop where
 Xa:∀ a,lt a a=z
 trans:∀ {a b c},lt a b=Q->lt b c=Q->lt a c=Q
 total:∀ {a b},a≠b->lt a b=Q∨lt b a=Q
variable {k lt}
theorem Bi:∀ (l:List α) (u:ay),pH k lt l u<=l.length
 | [],_=>aB _
 | y::r,u=>by
   unfold pH;have:=Bi r u
   split<;>simp<;>omega
theorem uT:∀ (l:List α) (u:ay) (i:Nat) (hi:i<l.length),i<pH k lt l u->lt (k l[i]) u=Q
 | [],_,i,hi,_=>by simp at hi
 | y::r,u,i,hi,h=>by
   unfold pH at h
   split at h
   ·rename_i hy;cases i with
    | zero=>exact hy
    | succ i=>exact uT r u i ia om
   ·omega
theorem xR (O:Fz lt):∀ (l:List α) (u:ay) (i:Nat) (hi:i<l.length),Ord k lt l->pH k lt l u<=i->lt (k l[i]) u=z
 | [],_,i,hi,_,_=>by simp at hi
 | y::r,u,i,hi,ho,h=>by
   have h0:=aa3.1 ho;unfold pH at h
   split at h
   ·cases i with
    | zero=>omega
    | succ i=>exact xR O r u i ia h0.2 om
   ·rename_i hy;cases i with
    | zero=>simpa using hy
    | succ i=>
     have hi':i<r.length:=by simpa using hi
     have h1:=h0.1 r[i] (aV hi');show lt (k r[i]) u=z;rw[dm];intro h2;exact hy (O.trans h1 h2)
theorem Wo (O:Fz lt){l:List α}(ho:Ord k lt l)(hi:i<l.length)(h:k l[i]=u):i=pH k lt l u:=by
 rcases dY i (pH k lt l u) with h1 | h1 | h1
 ·have:=uT l u i hi h1;rw[h,O.Xa] at this;cases this
 ·exact h1
 ·have h2:=xR O l u (pH k lt l u) om ho (aB _);have h3:=ab9.1 ho (pH k lt l u) i om hi h1;rw[h] at h3;rw[h2] at h3;cases h3
theorem ID (O:Fz lt){l:List α}(ho:Ord k lt l){x:α}(hn:∀ y∈l,k y≠k x):Ord k lt (l.take (pH k lt l (k x))++x::l.drop (pH k lt l (k x))):=by
 have h1:Ord k lt (l.take (pH k lt l (k x))++l.drop (pH k lt l (k x))):=by rw[bA];exact ho
 have h2:=aa8.1 h1;refine aa8.2 ⟨h2.1,aa3.2 ⟨λy hy=>?_,h2.2.1⟩,λy hy au hz=>?_⟩
 ·obtain⟨i,hi,rfl⟩:=ab5.1 hy;rw[bm] at hi;rw[List.getElem_drop];have h3:=xR O l (k x) (pH k lt l (k x)+i) om ho om;rcases O.total (hn _ (aV (by omega:pH k lt l (k x)+i<l.length))) with h4 | h4
  ·rw[h3] at h4;cases h4
  ·exact h4
 ·rcases aE.1 hz with rfl | hz
  ·obtain⟨i,hi,rfl⟩:=ab5.1 hy;rw[aK] at hi;rw[List.getElem_take];exact uT l _ i om om
  ·exact h2.2.2 y hy au hz
end
variable {lt:ay->ay->Bool}
theorem BI:∀ (l:List il) (x:il),o9 lt l x=l.take (pH il.u lt l x.u)++x::l.drop (pH il.u lt l x.u)
 | [],_=>rfl
 | y::r,x=>by
   unfold o9 pH
   split
   ·rw[BI r x];rfl
   ·rfl
theorem BJ:∀ (l:List gb) (x:gb),sJ lt l x=l.take (pH gb.u lt l x.u)++x::l.drop (pH gb.u lt l x.u)
 | [],_=>rfl
 | y::r,x=>by
   unfold sJ pH
   split
   ·rw[BJ r x];rfl
   ·rfl
theorem TW (O:Fz lt){l}(ho:Ord il.u lt l):mi l u=decide (∃ hk:pH il.u lt l u<l.length,(l[pH il.u lt l u]).u=u):=by
 rw[cv,aN];unfold mi;rw[dB];constructor
 ·rintro⟨y,hy,h⟩;obtain⟨i,hi,rfl⟩:=ab5.1 hy;have h:=bo h;have e:=Wo O ho hi h;subst e;exact⟨hi,h⟩
 ·rintro⟨hk,h⟩;exact⟨_,aV hk,aF h⟩
theorem Hu:∀ {l:List il} {u:ay} (x:eP) {i:Nat} (hi:i<l.length),(∀ j (hj:j<l.length),j<i->(l[j]).u≠u)->(l[i]).u=u->p8 l u x=l.set i ⟨u,mQ (l[i]).l x⟩
 | [],_,_,i,hi,_,_=>by simp at hi
 | y::r,u,x,0,hi,_,h=>by
   have h:y.u=u:=h;unfold p8;rw[aA h,h];rfl
 | y::r,u,x,i+1,hi,hj,h=>by
   have h0:y.u≠u:=hj 0 sm om;unfold p8;rw[az h0,cR]
   congr 1
   exact Hu x ia (λj h1 h2=>hj (j+1) gM om) h
theorem On:∀ {l:List il} {u:ay} {i:Nat} (hi:i<l.length),(∀ j (hj:j<l.length),j<i->(l[j]).u≠u)->(l[i]).u=u->kR l u=(l[i]).l
 | [],_,i,hi,_,_=>by simp at hi
 | y::r,u,0,hi,_,h=>by
   have h:y.u=u:=h;unfold kR;rw[aA h];rfl
 | y::r,u,i+1,hi,hj,h=>by
   have h0:y.u≠u:=hj 0 sm om;unfold kR;rw[az h0];exact On ia (λj h1 h2=>hj (j+1) gM om) h
theorem UW (O:Fz lt){l:List il}:∀ j (hj:j<l.length),j<pH il.u lt l u->(l[j]).u≠u:=λj hj h e=>by
 have:=uT l u j hj h;rw[e,O.Xa] at this;cases this
theorem sg:∀ (l:List il) (u:ay) (x:eP),(p8 l u x).map il.u=l.map il.u
 | [],_,_=>rfl
 | y::r,u,x=>by
   unfold p8
   split
   ·rfl
   ·rw[bC,bC,sg r u x]
theorem S4 {α:Type}{k:α->ay}{l m:List α}(h:l.map k=m.map k)(ho:Ord k lt m):Ord k lt l:=by
 have h1:(m.map k).Pairwise λa b=>lt a b=Q:=de.2 ho;rw[<-h] at h1;exact de.1 h1
theorem S5 (O:Fz lt){l}(ho:Ord il.u lt l)(u)(x):Ord il.u lt (qi lt l u x):=by
 unfold qi
 split
 ·split
  ·exact S4 (sg l u x) ho
  ·rename_i hh;rw[BI];refine ID O ho λy hy e=>hh ?_;unfold mi;rw[dB];exact⟨y,hy,aF e⟩
 ·exact ho
theorem Wt (O:Fz lt){l}(ho:Ord gb.u lt l)(u:ay)(t:Int):Ord gb.u lt (sJ lt (l.filter λx=>decide (x.u≠u)) ⟨u,t⟩):=by
 rw[BJ];refine ID O (ho.filter _) λy hy e=>?_;have:=(aa9.1 hy).2;exact(bo this) e
theorem Qp (O:Fz lt){s s':St}{e}(hu:Ord il.u lt s.us)(ht:Ord gb.u lt s.tb)(h:kM lt s e=G s'):Ord il.u lt s'.us/\Ord gb.u lt s'.tb:=by
 unfold kM at h
 split at h
 ·split at h
  ·cases h
  ·injection h with h;subst h;exact⟨hu,ht⟩
 split at h
 ·split at h
  ·cases h
  ·split at h
   ·injection h with h;subst h;exact⟨S5 O hu _ _,ht⟩
   ·cases h
 split at h
 ·split at h
  ·cases h
  ·injection h with h;subst h;exact⟨hu,ht⟩
 split at h
 ·split at h
  ·injection h with h;subst h;exact⟨hu,ht⟩
  ·cases h
 split at h
 ·injection h with h;subst h;exact⟨hu,ht⟩
 split at h
 ·injection h with h;subst h;exact⟨hu.filter _,Wt O ht _ _⟩
 ·cases h
structure pY (n:Nat)(s:St):Prop where
 no:s.op.length<=n
 nu:s.us.length<=n
 ns:s.sb.length<=n
 nt:s.tb.length<=n
 nl:∀ y∈s.us,y.l.length<=n
def wC (out:List fm)(s:fm):List fm:=match out.getLast? with
 | some o=>if s.a<=o.b then out.dropLast++[⟨o.a,max o.b s.b⟩] else out++[s]
 | none=>[s]
theorem OO {out}{s:fm}(hS:Sep out)(hs:s.a<s.b)(ha:∀ o∈out,o.a<=s.a):Sep (wC out s)/\(∀ t,fY (wC out s) t=(fY out t||fY [s] t))/\∀ o∈wC out s,o.a<=s.a:=by
 unfold wC;rcases dI out with e | ⟨A,o,e⟩
 ·subst e;refine⟨⟨by simpa using hs,sm⟩,by simp[fY],sm⟩
 ·rw[dz] at e;subst e;have e1:(A++[o]).getLast?=G o:=sm;rw[e1];have ho:=hS.1 o sm;have hao:=ha o sm;have hp:=aa8.1 hS.2;have hl:∀ x∈A,x.b<o.a:=λx hx=>hp.2.2 x hx o sm;simp only[]
  split
  ·rename_i hle;rw[List.dropLast_concat];refine⟨⟨λx hx=>?_,aa8.2 ⟨hp.1,sm,λx hx y hy=>?_⟩⟩,λt=>?_,λx hx=>?_⟩
   ·rcases bG.1 hx with hx | hx
    ·exact hS.1 x aaA
    ·rw[bP] at hx;subst hx;show o.a<max o.b s.b;omega
   ·rw[bP] at hy;subst hy;exact hl x hx
   ·rw[pM,pM,Bool.or_assoc]
    congr 1
    simp only[fY,bL,List.any_nil,Bool.or_false];rw[cv];simp only[bV,aN];omega
   ·rcases bG.1 hx with hx | hx
    ·exact ha x aaA
    ·rw[bP] at hx;subst hx;exact hao
  ·rename_i hgt;refine⟨⟨λx hx=>?_,aa8.2 ⟨hS.2,sm,λx hx y hy=>?_⟩⟩,λt=>by rw[pM],λx hx=>?_⟩
   ·rcases bG.1 hx with hx | hx
    ·exact hS.1 x hx
    ·rw[bP] at hx;subst hx;exact hs
   ·rw[bP] at hy;subst hy;rcases bG.1 hx with hx | hx
    ·have:=hl x hx;omega
    ·rw[bP] at hx;subst hx;omega
   ·rcases bG.1 hx with hx | hx
    ·exact ha x hx
    ·rw[bP] at hx;subst hx;exact Int.le_refl _
theorem zN:∀ (l out:List fm),Sep out->(∀ s∈l,s.a<s.b)->l.Pairwise (λx y=>x.a<=y.a)->(∀ s∈l,∀ o∈out,o.a<=s.a)->Sep (l.foldl wC out)/\∀ t,fY (l.foldl wC out) t=(fY out t||fY l t)
 | [],out,hS,_,_,_=>⟨hS,λt=>by simp[fY]⟩
 | s::r,out,hS,h1,h2,h3=>by
   have hp:=aa3.1 h2;obtain⟨k1,k2,k3⟩:=OO hS (h1 s sm) (h3 s sm);obtain⟨m1,m2⟩:=zN r (wC out s) k1 (λx hx=>h1 x aaA) hp.2 λx hx o ho=>by
    have:=k3 o ho;have:=hp.1 x hx;omega
   refine⟨m1,λt=>?_⟩;rw[dj,m2,k2,Bool.or_assoc]
   congr 1
   rw[<-pM];rfl
theorem IJ {l m:List fm}(hp:m.Perm (l.filter fm.ok))(hs:m.Pairwise λx y=>x.a<=y.a):m.foldl wC []=fq l:=by
 have hok:∀ s∈m,s.a<s.b:=λs hs=>by
  have:=(aa9.1 (hp.mem_iff.1 hs)).2;exact bo this
 obtain⟨k1,k2⟩:=zN m [] ⟨sm,sm⟩ hok hs sm;obtain⟨n1,n2⟩:=lF l;refine Ns k1 n1 λt=>?_;rw[k2,n2,EH hp,tr];simp[fY]
theorem yp (l)(s):(mQ l s).length=l.length+1:=by rw[(pc l s).length_eq];rfl
theorem Es (l)(e):(oC l e).length=l.length+1:=by rw[(sC l e).length_eq];rfl
theorem It:∀ (l:List fl) (n:Int),(tS l n).length<=l.length:=λl n=>(Bb l n).length_le
theorem Jn (l)(n s t:Int):(yP l n s t).length=l.length:=by have:=aP List.length (Hj l n s t);simpa using this
section
variable {lt:ay->ay->Bool}
theorem Eu (l)(x):(qe lt l x).length=l.length+1:=by rw[(pe l x).length_eq];rfl
theorem Ba:∀ (l:List Sub) (w u:ay) (t:Int),(yV l w u t).length<=l.length
 | [],_,_,_=>aB _
 | y::r,w,u,t=>by
   unfold yV
   split
   ·split<;>simp
   ·have:=Ba r w u t;simp;omega
theorem Er:∀ (l:List il) (x:il),(o9 lt l x).length=l.length+1
 | [],_=>rfl
 | y::r,x=>by
   unfold o9
   split
   ·simp[Er r x]
   ·simp
theorem yo:∀ (l:List gb) (x:gb),(sJ lt l x).length=l.length+1
 | [],_=>rfl
 | y::r,x=>by
   unfold sJ
   split
   ·simp[yo r x]
   ·simp
theorem ym:∀ (l:List il) (x y:il),y∈o9 lt l x->y=x∨y∈l
 | [],x,y,h=>by simpa[o9] using h
 | au::r,x,y,h=>by
   unfold o9 at h
   split at h
   ·rcases aE.1 h with rfl | h
    ·exact aI sm
    ·rcases ym r x y h with h | h
     ·exact aG h
     ·exact aI fF
   ·rcases aE.1 h with rfl | h
    ·exact aG D
    ·exact aI h
theorem CN:∀ (l:List il) (u:ay) (x:eP),(∀ y∈l,y.l.length<=n)->∀ y∈p8 l u x,y.l.length<=n+1
 | [],_,_,_,y,hy=>by cases hy
 | au::r,u,x,h,y,hy=>by
   unfold p8 at hy;have hz:=h au sm
   split at hy
   ·rcases aE.1 hy with rfl | hy
    ·show(mQ au.l x).length<=n+1;rw[yp];omega
    ·have:=h y fN;omega
   ·rcases aE.1 hy with rfl | hy
    ·omega
    ·exact CN r u x (λy hy=>h y fN) y hy
theorem Q3{l:List il}(u)(x)(hl:l.length<=n)(h:∀ y∈l,y.l.length<=n):(qi lt l u x).length<=n+1/\∀ y∈qi lt l u x,y.l.length<=n+1:=by
 unfold qi
 split
 ·split
  ·refine⟨?_,CN l u x h⟩;have:=aP List.length (sg l u x);rw[bg,bg] at this;omega
  ·refine⟨by rw[Er];omega,λy hy=>?_⟩;rcases ym l _ y hy with rfl | hy
   ·simp
   ·have:=h y hy;omega
 ·exact⟨om,λy hy=>by have:=h y hy;omega⟩
theorem Qq{s s'}{e}(F:pY n s)(h:kM lt s e=G s'):pY (n+1) s':=by
 obtain⟨f1,f2,f3,f4,f5⟩:=F;have f5':∀ y∈s.us,y.l.length<=n+1:=λy hy=>by have:=f5 y hy;omega
 unfold kM at h
 split at h
 ·split at h
  ·cases h
  ·injection h with h;subst h
   exact⟨by show(oC _ _).length<=_;rw[Es];omega,aaZ,by show s.sb.length<=_;omega,jx,f5'⟩
 split at h
 ·split at h
  ·cases h
  ·split at h
   ·injection h with h;subst h
    obtain⟨a1,a2⟩:=Q3 (lt:=lt) e.user (fl.stay ‹fl› e.time) f2 f5;refine⟨?_,a1,by show s.sb.length<=_;omega,jx,a2⟩;show(if e.kind=2 then yP s.op e.n e.st e.time else tS s.op e.n).length<=_
    split
    ·rw[Jn];omega
    ·have:=It s.op e.n;omega
   ·cases h
 split at h
 ·split at h
  ·cases h
  ·injection h with h;subst h
   exact⟨by show s.op.length<=_;omega,aaZ,by show(qe _ _ _).length<=_;rw[Eu];omega,jx,f5'⟩
 split at h
 ·split at h
  ·injection h with h;subst h
   refine⟨by show s.op.length<=_;omega,aaZ,?_,jx,f5'⟩;show(yV _ _ _ _).length<=_;have:=Ba s.sb e.user e.other e.time;omega
  ·cases h
 split at h
 ·injection h with h;subst h
  exact⟨by show s.op.length<=_;omega,aaZ,by show s.sb.length<=_;omega,jx,f5'⟩
 split at h
 ·injection h with h;subst h
  refine⟨?_,?_,?_,?_,λy hy=>f5' y (aa9.1 hy).1⟩
  ·exact aH (bp _ _) om
  ·exact aH (bp _ _) om
  ·exact aH (bp _ _) om
  ·show(sJ _ _ _).length<=_;rw[yo];have:=bp (λx:gb=>decide (x.u≠e.user)) s.tb;omega
 ·cases h
end
section
variable {lt:ay->ay->Bool}
theorem Fz.abU (O:Fz lt){b}(h:lt a b=Q):lt b a=z:=by
 cases e:lt b a with
 | false=>rfl
 | true=>have:=O.trans h e;rw[O.Xa] at this;cases this
def iV {α:Type}(key:α->ay)(lt:ay->ay->Bool)(u:ay)(e:α):Bool->List α->List α
 | d,[]=>if d then [] else [e]
 | d,y::r=>
  if d=z/\lt u (key y)=Q then e::(if key y=u then iV key lt u e Q r else y::iV key lt u e Q r)
  else if key y=u then(if d then iV key lt u e d r else e::iV key lt u e Q r)
  else y::iV key lt u e d r
abbrev tj (lt:ay->ay->Bool)(u:ay)(S:List eP):Bool->List il->List il:=iV il.u lt u ⟨u,S⟩
theorem oY {α:Type}(key:α->ay)(u)(e:α):∀ l:List α,iV key lt u e Q l=l.filter λy=>decide (key y≠u)
 | []=>rfl
 | y::r=>by
   unfold iV;rw[az sm,oY key u e r];by_cases h:key y=u
   ·rw[aA h,bQ fF];rfl
   ·rw[az h,bS fF]
theorem Kg (u)(S)(l):tj lt u S Q l=l.filter λy=>decide (y.u≠u):=oY _ _ _ _
theorem EY {l:List il}(h:∀ y∈l,y.u≠u):(l.filter λy=>decide (y.u≠u))=l:=
 List.filter_eq_self.2 λy hy=>by simpa using h y hy
theorem Wu (O:Fz lt){l:List il}(h:∀ y∈l,lt u y.u=Q):∀ y∈l,y.u≠u:=λy hy e=>by
 have:=h y hy;rw[e,O.Xa] at this;cases this
theorem Dy (O:Fz lt)(u)(S):∀ l:List il,Ord il.u lt l->mi l u=z->tj lt u S z l=o9 lt l ⟨u,S⟩
 | [],_,_=>rfl
 | y::r,ho,hn=>by
   have k:=aa3.1 ho;unfold mi at hn;rw[bL,Bool.or_eq_false_iff] at hn;have hy:y.u≠u:=ey hn.1;unfold tj iV o9;by_cases h:lt u y.u=Q
   ·rw[aA ⟨D,h⟩,az hy,oY,EY (Wu O λau hz=>O.trans h (k.1 au hz)),az (by rw[O.abU h];simp)]
   ·rw[az (λhh=>h hh.2),az hy,aA ((O.total hy).resolve_right h),show iV il.u lt u ⟨u,S⟩ z r=_ from Dy O u S r k.2 hn.2]
theorem Dx (O:Fz lt)(u)(x):∀ (l:List il) (S:List eP),Ord il.u lt l->mi l u=Q->S=mQ (kR l u) x->tj lt u S z l=p8 l u x
 | [],_,_,h,_=>by simp[mi] at h
 | y::r,S,ho,hn,hS=>by
   have k:=aa3.1 ho;unfold tj iV p8;by_cases hy:y.u=u
   ·have h:lt u y.u=z:=by rw[hy,O.Xa]
    rw[az aaI,aA hy,az sm,aA hy,oY,EY (λau hz e=>by have:=k.1 au hz;rw[hy,e,O.Xa] at this;cases this),hS];unfold kR;rw[aA hy,hy]
   ·have hr:mi r u=Q:=by
     unfold mi at hn ⊢;rw[bL,bV] at hn;rcases hn with h | h
     ·exact absurd (bo h) hy
     ·exact h
    have h:lt u y.u=z:=by
     obtain⟨au,hz,e⟩:=dB.1 hr;have e:=bo e;have:=k.1 au hz;rw[e] at this;exact O.abU this
    rw[az aaI,az hy,az hy,show iV il.u lt u ⟨u,S⟩ z r=_ from Dx O u x r S k.2 hr (by rw[hS,kR,az hy])]
def tv (lt:ay->ay->Bool)(l:List il)(u:ay)(x:eP):List il:=if x.ok then tj lt u (mQ (kR l u) x) z l else l
theorem Jw (O:Fz lt){l}(ho:Ord il.u lt l)(u)(x):tv lt l u x=qi lt l u x:=by
 unfold tv qi;by_cases hx:x.ok=Q
 ·rw[aA hx,aA hx];by_cases h:mi l u=Q
  ·rw[aA h,Dx O u x l _ ho h D]
  ·have h:mi l u=z:=by simpa using h
   rw[az aaI,Dy O u _ l ho h,tX h];rfl
 ·rw[az hx,az hx]
def qo (lt:ay->ay->Bool)(u:ay)(t:Int):Bool->List gb->List gb
 | d,[]=>if d then [] else [⟨u,t⟩]
 | d,y::r=>
  if d=z/\lt y.u u=z then⟨u,t⟩::(if y.u=u then qo lt u t Q r else y::qo lt u t Q r)
  else if y.u=u then qo lt u t d r else y::qo lt u t d r
theorem xl (u)(t:Int):∀ l:List gb,qo lt u t Q l=l.filter λy=>decide (y.u≠u)
 | []=>rfl
 | y::r=>by
   unfold qo;rw[az sm,xl u t r];by_cases h:y.u=u
   ·rw[aA h,bQ fF]
   ·rw[az h,bS fF]
theorem MR (O:Fz lt)(u)(t:Int):∀ l:List gb,Ord gb.u lt l->qo lt u t z l=sJ lt (l.filter λy=>decide (y.u≠u)) ⟨u,t⟩
 | [],_=>rfl
 | y::r,ho=>by
   have k:=aa3.1 ho;unfold qo;by_cases hy:y.u=u
   ·have h:lt y.u u=z:=by rw[hy,O.Xa]
    rw[aA ⟨D,h⟩,aA hy,xl,bQ fN];cases hq:(r.filter λy=>decide (y.u≠u)) with
    | nil=>rfl
    | cons au q=>
     have hz:au∈r:=(aa9.1 (by rw[hq];simp)).1;have:=k.1 au hz;rw[hy] at this;unfold sJ;rw[az (by rw[O.abU this];simp)]
   ·rw[bS fN];unfold sJ;by_cases h:lt y.u u=Q
    ·rw[az aaI,az hy,aA h,MR O u t r k.2]
    ·have h:lt y.u u=z:=by simpa using h
     rw[aA ⟨D,h⟩,az hy,xl,az aaI]
end
def mz:List Ev->ay->Nat
 | [],_=>0
 | e::r,u=>if mo r u=Q then mz r u+1 else if e.kind=7/\e.user=u then 1 else 0
theorem Ci:∀ (l:List Ev) (u:ay),mo l u=z->mz l u=0
 | [],_,_=>rfl
 | e::r,u,h=>by
   unfold mo at h;rw[bL,Bool.or_eq_false_iff] at h;unfold mz;rw[az (by unfold mo;rw[h.2];simp),az (ey h.1)]
theorem QU:∀ {l:List Ev} {u:ay} {k:Nat} (hk:k<l.length),(l[k]).kind=7->(l[k]).user=u->mo (l.drop (k+1)) u=z->mz l u=k+1
 | [],_,_,hk,_,_,_=>by simp at hk
 | e::r,u,0,_,h1,h2,h3=>by
   unfold mz;rw[az (by rw[show mo r u=z from h3];simp),aA ⟨h1,h2⟩]
 | e::r,u,k+1,hk,h1,h2,h3=>by
   have hk':k<r.length:=by simpa using hk
   unfold mz;rw[aA,QU hk' h1 h2 h3];unfold mo;rw[dB];exact⟨r[k],aV _,aF ⟨h1,h2⟩⟩
theorem Cj:∀ (l:List Ev) (u:ay),mz l u<=l.length
 | [],_=>aB _
 | e::r,u=>by
   have:=Cj r u;unfold mz
   split
   ·simp;omega
   ·split<;>simp
theorem yx {l}:∀ {k:Nat},mz l u<=k->mo (l.drop k) u=z:=by
 induction l with
 | nil=>intro k _;simp[mo]
 | cons e r ih=>
  intro k hk;unfold mz at hk;cases k with
  | zero=>
   split at hk
   ·omega
   ·rename_i h1
    split at hk
    ·omega
    ·rename_i h2;rw[cW];unfold mo;rw[bL,aC h2,Bool.false_or];simpa[mo] using h1
  | succ k=>
   rw[cn]
   split at hk
   ·exact ih om
   ·rename_i h1;exact ih (by rw[Ci r u gM];omega)
theorem Q9 (u)(now:Int):∀ (l:List Ev),SL l u now=SL (l.drop (mz l u)) u now
 | []=>rfl
 | e::r=>by
   unfold mz
   split
   ·rename_i h;rw[cn,<-Q9 u now r,SL,aA h]
   ·rename_i h
    split
    ·rename_i h7;rw[cn,cW,SL,az h,az (λhh=>by have:=h7.1;omega)]
    ·rfl
theorem Zx {l:List Ev}{now:Int}(hk:k<l.length)(hb:mz l u<=k):
 SL (l.drop k) u now=if((l[k]).kind=1∨(l[k]).kind=2)/\(l[k]).user=u then⟨(l[k]).time,mM (l.drop (k+1)) (l[k]).n now,(l[k]).n,(l[k]).st⟩::SL (l.drop (k+1)) u now else SL (l.drop (k+1)) u now:=by
 rw[aR hk,SL,az (by rw[yx (show mz l u<=k+1 by omega)];simp)]
theorem Rb:∀ {l:List Ev} {w u:ay},True->∀ (m:Nat),m=max (mz l w) (mz l u)->PL l w u=PL (l.drop m) w u
 | [],_,_,_,m,_=>by simp
 | e::r,w,u,_,m,hm=>by
   have ew:mo r w=z∨mo r w=Q:=by cases mo r w<;>simp
   have eu:mo r u=z∨mo r u=Q:=by cases mo r u<;>simp
   have bw:mo r w=z->mz (e::r) w<=1/\mz r w=0:=λh=>⟨by unfold mz;rw[az aaI];split<;>omega,Ci r w h⟩;have bu:mo r u=z->mz (e::r) u<=1/\mz r u=0:=λh=>⟨by unfold mz;rw[az aaI];split<;>omega,Ci r u h⟩;have cw:mo r w=Q->mz (e::r) w=mz r w+1:=λh=>by rw[mz,aA h]
   have cu:mo r u=Q->mz (e::r) u=mz r u+1:=λh=>by rw[mz,aA h]
   by_cases h:mo r w=Q∨mo r u=Q
   ·obtain⟨m',rfl⟩:∃ m',m=m'+1:=⟨m - 1,by
     rcases h with h | h
     ·have:=cw h;omega
     ·have:=cu h;omega⟩
    rw[cn,PL,aA h];refine Rb trivial m' ?_;rcases ew with h1 | h1<;>rcases eu with h2 | h2
    ·rw[h1,h2] at h;simp at h
    ·have:=bw h1;have:=cu h2;omega
    ·have:=cw h1;have:=bu h2;omega
    ·have:=cw h1;have:=cu h2;omega
   ·have h1:mo r w=z:=by
     rcases ew with h1 | h1;·exact h1
     exact absurd (aG h1) h
    have h2:mo r u=z:=by
     rcases eu with h2 | h2;·exact h2
     exact absurd (aI h2) h
    by_cases h7:e.kind=7/\(e.user=w∨e.user=u)
    ·have hm1:m=1:=by
      have b1:=bw h1;have b2:=bu h2;have:mz (e::r) w=1∨mz (e::r) u=1:=by
       rcases h7.2 with h | h
       ·left;unfold mz;rw[az (by rw[h1];simp),aA ⟨h7.1,h⟩]
       ·right;unfold mz;rw[az (by rw[h2];simp),aA ⟨h7.1,h⟩]
      omega
     rw[hm1,cn,cW,PL,az h,az (λhh=>by have:=h7.1;omega)]
    ·have hm0:m=0:=by
      have b1:mz (e::r) w=0:=by unfold mz;rw[az (by rw[h1];simp),az (λhh=>h7 ⟨hh.1,aG hh.2⟩)]
      have b2:mz (e::r) u=0:=by unfold mz;rw[az (by rw[h2];simp),az (λhh=>h7 ⟨hh.1,aI hh.2⟩)]
      omega
     rw[hm0,cW]
theorem XJ (l)(w u):PL l w u=PL (l.drop (max (mz l w) (mz l u))) w u:=Rb trivial _ rfl
theorem Zy {l:List Ev}{w}(hk:k<l.length)(hb:max (mz l w) (mz l u)<=k):
 PL (l.drop k) w u=if(l[k]).kind=4/\(l[k]).user=w/\(l[k]).other=u then⟨(l[k]).time,mT (l.drop (k+1)) w u⟩::PL (l.drop (k+1)) w u else PL (l.drop (k+1)) w u:=by
 rw[aR hk,PL,az];rw[yx (show mz l w<=k+1 by omega),yx (show mz l u<=k+1 by omega)];simp
section
variable {lt:ay->ay->Bool}{ok:Ev->Bool}
def Mk (l:List Ev)(u:ay):List Ev:=l.filter λe=>decide (3<e.kind∨e.user≠u)
def Zd (l:List Ev):List Ev:=l.filter λe=>decide (3<e.kind)
theorem Jq (l)(u):Zd (Mk l u)=Zd l:=by
 unfold Zd Mk;rw[dQ]
 congr 1
 funext e
 by_cases h:3<e.kind<;>simp[h]
def Yp (lt:ay->ay->Bool)(p:List Sub×Int)(e:Ev):List Sub×Int:=
 if e.kind=4 then(qe lt p.1 ⟨e.user,e.other,e.time,FE⟩,p.2)
 else if e.kind=5 then(yV p.1 e.user e.other e.time,p.2)
 else if e.kind=6 then(p.1,max p.2 e.n)
 else if e.kind=7 then(p.1.filter λx=>decide (x.w≠e.user/\x.u≠e.user),p.2)
 else p
theorem Qo {s s'}{e}(h:kM lt s e=G s'):(s'.sb,s'.fb)=Yp lt (s.sb,s.fb) e:=by
 unfold kM at h;unfold Yp
 split at h
 ·split at h
  ·cases h
  ·injection h with h;rw[<-h,az om,az om,az om,az om]
 split at h
 ·split at h
  ·cases h
  ·split at h
   ·injection h with h;rw[az om,az om,az om,az om,<-h]
   ·cases h
 split at h
 ·rename_i hk;rw[aA hk]
  split at h
  ·cases h
  ·injection h with h;rw[<-h]
 rename_i h4;rw[az h4]
 split at h
 ·rename_i hk;rw[aA hk];exact aaU
 rename_i h5;rw[az h5]
 split at h
 ·rename_i hk;rw[aA hk];injection h with h;rw[<-h]
 rename_i h6;rw[az h6]
 split at h
 ·rename_i hk;rw[aA hk];injection h with h;rw[<-h]
 ·cases h
theorem J8 {e:Ev}(p:List Sub×Int)(h:¬3<e.kind):Yp lt p e=p:=by
 unfold Yp;rw[az om,az om,az om,az om]
theorem xC:∀ (l:List Ev) (s:St) {s':St},runs lt ok s l=G s'->(s'.sb,s'.fb)=(Zd l).foldl (Yp lt) (s.sb,s.fb)
 | [],s,s',h=>by injection h with h;subst h;rfl
 | e::r,s,s',h=>by
   unfold runs at h;cases hs:ft lt ok s e with
   | none=>rw[hs] at h;cases h
   | some t=>
    rw[hs] at h;have ih:=xC r t h;unfold ft at hs
    split at hs
    ·rw[ih,Qo hs];unfold Zd;by_cases hk:3<e.kind
     ·rw[bS iG,dj]
     ·rw[bQ iG,J8 _ hk]
    ·cases hs
theorem xD:∀ (l:List Ev) (s:St) {s':St},runs lt ok s l=G s'->s'.now=(l.getLast?.map (·.time)).getD s.now
 | [],s,s',h=>by injection h with h;subst h;rfl
 | e::r,s,s',h=>by
   unfold runs at h;cases hs:ft lt ok s e with
   | none=>rw[hs] at h;cases h
   | some t=>
    rw[hs] at h;have ih:=xD r t h;unfold ft at hs
    split at hs
    ·rw[ih,Fc hs];cases r with
     | nil=>rfl
     | cons x q=>rw[List.getLast?_cons_cons,List.getLast?_eq_some_getLast (l:=x::q) sm];rfl
    ·cases hs
def Ig (l:List Ev)(u:ay)(now:Int):List eP:=(SL l u now).foldl pV []
theorem AV (hok:∀ e,ok e=Q->e.time<FE){a b}{sa sb}{w:ay}{now:Int}(ha:runs lt ok St.zero a=G sa)(hb:runs lt ok St.zero b=G sb)
 (hr:Mk a u=Mk b u) (hc:jT (Ig a u now) (fq (fq (PL a w u)))=jT (Ig b u now) (fq (fq (PL a w u)))):
 sa.sb=sb.sb/\sa.fb=sb.fb/\∀ (T:List fm) (La Lb:List eP),Sep T->(∀ t,fY T t=Q->fY (kP sa.sb w u) t=Q)->La.Perm (SS sa u now)->Lb.Perm (SS sb u now)->jT La T=jT Lb T:=by
 have h1:(sa.sb,sa.fb)=(sb.sb,sb.fb):=by
  rw[xC a _ ha,xC b _ hb,<-Jq a u,<-Jq b u,hr]
 injection h1 with h1 h2
 refine⟨h1,h2,λT La Lb hT hin pa pb=>?_⟩;have hN:=(lF (fq (PL a w u))).1;have hw:=sY hN hT λt ht=>by
  rw[(lF (fq (PL a w u))).2,(lF (PL a w u)).2,Kk hok w u ha];exact hin t ht
 have hs:=Qv (J5 hN) hw hc;have st:∀ {l:List Ev} {s:St},runs lt ok St.zero l=G s->(Ig l u now).Perm (SS s u now):=λ{l s} h=>by
  have:=Am (SL l u now) [];rw[bO] at this;exact this.trans (Gf u now h)
 have e1:jT La T=jT (Ig a u now) T:=AS (xT (pa.trans (st ha).symm) T);have e2:jT Lb T=jT (Ig b u now) T:=AS (xT (pb.trans (st hb).symm) T);rw[e1,e2,hs]
end
