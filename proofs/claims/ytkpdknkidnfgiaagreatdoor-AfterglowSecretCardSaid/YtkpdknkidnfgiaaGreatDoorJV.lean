/- Lemmas for AfterglowSecret: what functions of the program return; no condition. -/
import Derived.Shelf.Spec.SlicesInsert
import Derived.Lib.AppendZerosOnto
import Derived.Test.YtkpdknkidnfgiaaGreatDoorJS
import Derived.Test.YtkpdknkidnfgiaaGreatDoorJI
set_option maxHeartbeats 0
set_option maxRecDepth 100000
set_option linter.unusedVariables false
open Go.Value renaming int->I,string->C,slice->Z
open Go.IntKind renaming i64->J,u8->U
open Option renaming none->E,some->G
open Bool renaming true->Q,false->z
open Go.Lib renaming hid->H
open Go.Proofs.Tryz
namespace Go.Proofs.YtkpdknkidnfgiaaGreatDoor
theorem abh{p:Prop}(h:p:=by
 simp only[aM,aN] at h;exact⟨key _ h.1.2,om⟩):p:=h
variable {ev ld na nt:Int} {F:List Nat} {xs xs2:List Value} {A B N X b b' b2 c g k m n s sz sz2:Nat} {T ai t t2:TypeId} {v2 vo vo' vs vs' vt vt' vu vu':Value} {V W W' w w' w0:World}
namespace Tp
open Go Go.RowKit Go.Lib
open Ds.DkM (bf gj ij gQ mY iZ Fl gG mV)
open Ds (Dk eF lg mg jY Iv Bd ptr Kp fP Bf He rZ px lE)
structure KF (F:List Nat)(w w':World):Prop where
 os:w'.os=w.os
 tape:w'.tape=w.tape
 output:w'.output=w.output
 size:w.heap.size<=w'.heap.size
 block:∀ k,k<w.heap.size->k∉F->w'.heap[k]?=w.heap[k]?
section
variable {F an:List Nat}{w w' w2:World}
theorem KF.eH:KF F w w:=⟨D,D,D,aB _,λ_ _ _=>rfl⟩
theorem KF.ca (h:KF F w w')(k:KF F w' w2):KF F w w2:=
 ⟨k.os.trans h.os,k.tape.trans h.tape,k.output.trans h.output,aH h.size k.size,λi hi h1=>(k.block i (bK hi h.size) h1).trans (h.block i hi h1)⟩
theorem KF.of (h:Bl w w'):KF F w w':=⟨h.os,h.tape,h.output,h.size,λk hk _=>h.block k hk⟩
theorem KF.bl (h:KF F w w')(k:Bl w' w2):KF F w w2:=h.ca (.of k)
theorem KF.dr (h:KF F w w'):KF F w w'.drew:=h.bl Bl.eH.dr
theorem KF.al (h:KF F w w')(o):KF F w (w'.alloc o):=h.bl (gl _ o)
theorem KF.st (h:KF F w w'){p:Addr}(hp:p.block∈F)(v):KF F w (w'.setCell p v):=
 h.ca ⟨D,D,D,by simp[World.setCell],λk _ hk=>aa0 _ _ _ _ (λe=>hk (by rw[e];exact hp))⟩
theorem KF.kp {p:Nat}(h:Ds.Kp p b w w')(hp:p∈F)(hb:b∈F):KF F w w':=
 ⟨h.os,h.tape,h.output,h.size,λk hk hn=>h.block k hk (λe=>hn (by rw[e];exact hp)) (λe=>hn (by rw[e];exact hb))⟩
theorem KF.mono (h:KF F w w')(hs:∀ k∈F,k∈an):KF an w w':=⟨h.os,h.tape,h.output,h.size,λk hk hn=>h.block k hk λhf=>hn (hs k hf)⟩
theorem KF.MQ (h:KF F w w')(hF:∀ k∈F,w.heap.size<=k):Bl w w':=⟨h.os,h.tape,h.output,h.size,λk hk=>h.block k hk λhf=>by have:=hF k hf;omega⟩
theorem KF.yN(h:KF F w w')(hV:Bl V w)(hF:∀ k∈F,V.heap.size<=k):Bl V w':=
 ⟨h.os.trans hV.os,h.tape.trans hV.tape,h.output.trans hV.output,aH hV.size h.size,λk hk=>(h.block k (bK hk hV.size) λhf=>by have:=hF k hf;omega).trans (hV.block k hk)⟩
theorem KF.hp (h:KF F w w'){o}(ho:w.heap[g]?=G o)(hg:g∉F):w'.heap[g]?=G o:=
 (h.block g (aa2.1 ho).1 hg).trans ho
theorem KF.ce (h:KF F w w'){p}{v}(hc:w.cell? p=G v)(hg:p.block∉F):w'.cell? p=G v:=
 (ab2 (w:=w) (h.block p.block (World.block_lt_of_cell? w p hc) hg)).trans hc
theorem KF.own{v}(h:KF F w w')(hr:w.ownsRow b t sz v n xs)(hF:∀ k∈F,k<b):w'.ownsRow b t sz v n xs:=by
 refine⟨hr.1,?_⟩;rcases hr.2 with k | ⟨g,cap,cur,hv,hg,hh,r⟩
 ·exact .inl k
 ·exact .inr ⟨g,cap,cur,hv,hg,h.hp hh (λhf=>by have:=hF g hf;omega),r⟩
theorem KF.rw {α:Type}{f:α->List Value}{v}{L:List α}(h:KF F w w')(hr:Rw f t sz w b v L)(hF:∀ k∈F,k<b):Rw f t sz w' b v L:=h.own hr hF
end
end Tp
namespace Tp
open Go Go.RowKit Go.Lib Go.Sort
open Ds.DkM (bf gj ij gQ mY iZ Fl gG mV)
open Ds (Dk eF lg mg jY Iv Bd ptr Kp fP Bf He rZ px lE)
theorem we {α:Type}(cur cs:List α)(o:Nat)(h:o+cs.length<=cur.length):(splice cur o cs).length=cur.length:=by
 unfold splice;simp only[aU,aK,bm];omega
theorem AU {α:Type}(cur cs:List α)(o:Nat):splice cur o cs=cur.take o++cs++cur.drop (o+cs.length):=by simp[splice]
theorem JZ {α:Type}{cur X xs:List α}(h:cur.take X.length=X)(hk:k<=X.length)(hm:xs.length=m)(hl:X.length+m<=cur.length):
 (splice (splice cur (k+m) (X.drop k)) k xs).take (X.length+m)=X.take k++xs++X.drop k:=by
 have h1:(cur.take (k+m)).length=k+m:=by rw[aK];omega
 have e1:(splice cur (k+m) (X.drop k)).take k=X.take k:=by
  unfold splice;rw[List.take_append_of_le_length om,du,cM om,<-h,du,cM hk]
 have e2:(splice cur (k+m) (X.drop k)).drop (k+m)=X.drop k++cur.drop (k+m+(X.drop k).length):=by
  unfold splice;rw[List.drop_left' h1]
 unfold splice at e1 e2 ⊢;rw[e1,hm,e2,<-aS,<-aS,List.take_left' abE]
theorem Nf {α:Type}{R X xs:List α}(h:R.take k=X.take k)(hk:k<=X.length)(hm:xs.length=m)(hl:X.length+m<=R.length):
 (splice (splice R k xs) (k+m) (X.drop k)).take (X.length+m)=X.take k++xs++X.drop k:=by
 have e1:(splice R k xs).take (k+m)=X.take k++xs:=by
  unfold splice;rw[<-aS,List.take_left' (by simp only[aU,aK];omega),h]
 unfold splice at e1 ⊢;rw[e1,<-aS,List.take_left' abE]
theorem EK {α:Type}(f:α->List Value)(sz:Nat)(hf:∀ x,(f x).length=sz)(L:List α)(k:Nat)(x:α):(L.take k++x::L.drop k).flatMap f=(L.flatMap f).take (k*sz)++f x++(L.flatMap f).drop (k*sz):=by
 obtain⟨r1,r2⟩:=gB f sz hf L k;rw[bB,bh,r1,r2,aS]
theorem yt(h:w.grownBy W (G g))(cs):w.grownBy (W.setRow g cs) (G g):=
 ⟨h.os,h.tape,h.output,jv,λk hk hne=>by
  have e:(W.setRow g cs).heap[k]?=W.heap[k]?:=by
   simp only[World.setRow,di];rw[az (λe=>hne (by rw[e]))]
  exact e.trans (h.block k hk hne)⟩
theorem tN:(prog.info? 244).map (·.size)=G 2:=kr
def Hr (L:List gb)(x:gb)(k b:Nat)(v:Value)(w:World)(e:Ending)(w':World):Prop:=
 ∃ v',e= .returned v'/\Rw gb.cs 244 2 w' b v' (L.take k++x::L.drop k)/\w.grownBy w' v.ownBlock
theorem TJ (L)(x:gb)(A)(n cap g2 b:Nat)(w)(h:Rw gb.cs 244 2 w b (Z A n cap) L)(hB:Bk w g2 244 #[C x.u,I J x.t])(hnl:n=L.length)(hn:n<=1000)(hb:b<=w.heap.size):
 Calls prog 339 #[Z A n cap,I J n,Z (G ⟨g2,0,E⟩) 1 1] w (Hr L x n b (Z A n cap) w):=by
 unfold Hr;have S:=mP (sz:=2) hB D gO;obtain⟨i,au,hi,hz,h1,h2,h3⟩:=F5.i;have e1:((n:Int)==(n:Int))=Q:=sm;have hown:w.ownsRow b 244 2 (Z A n cap) n (L.flatMap gb.cs):=by rw[hnl];have:=h;unfold Rw at this;rw[hnl] at this;exact this
 have FIN:=H (show(L.take n++x::L.drop n)=L++[x]/\(L++[x]).length=n+1/\(L++[x]).flatMap gb.cs=L.flatMap gb.cs++[C x.u,I J x.t] by
  rw[hnl];simp[gb.cs])
 obtain⟨HO,HS,HN⟩:=gi hown S hnl;clear h hB hown hnl
 go_enter func339,ntmps339
 go_wp2_with (at_builtin;refine wpList_append_own _ D _ _ 129 D b 244 i au 2 24 underlying129 hi hz h1 h2 h3 dc (Z A n cap) n (L.flatMap gb.cs) D HO ⟨g2,0,E⟩ 1 1 [C x.u,I J x.t] D D (HS.ce _ D) HS.one eQ om hb ?_;intro v' w' k1 k2 _)
 all_goals
  go_ret;obtain⟨f1,f2,f3⟩:=FIN.out;refine⟨_,D,?_,(by cases A<;>exact k2)⟩;rw[f1];unfold Rw;rw[f2,f3];exact k1
theorem Pg (L)(x:gb)(g n cap g2 b k:Nat)(w)(h:Rw gb.cs 244 2 w b (Z (G ⟨g,0,E⟩) n cap) L)(hB:Bk w g2 244 #[C x.u,I J x.t])(hne:g2≠g)(hnl:n=L.length)(hn:n<=1000)(hk:k<n)(hc:n+1<=cap):
 Calls prog 339 #[Z (G ⟨g,0,E⟩) n cap,I J k,Z (G ⟨g2,0,E⟩) 1 1] w (Hr L x k b (Z (G ⟨g,0,E⟩) n cap) w):=by
 unfold Hr;obtain⟨cur0,hg,hs,ht⟩:=h.cur;obtain⟨cur⟩:=cur0;have S:=mP (sz:=2) hB D gO;obtain⟨X,hX⟩:=fe (L.flatMap gb.cs);have hXl:X.length=n*2:=by rw[hX,hnl];exact h.1
 have hs:cur.length=cap*2:=by simpa using hs
 have ht:cur.take X.length=X:=by rw[hXl,hnl,hX];exact ht
 have hXs:=Rw.sl mB h;rw[<-hX] at hXs;have hdl:(X.drop (k*2)).length=(n - k)*2:=by rw[bm,hXl];omega
 have c1l:=we cur (X.drop (k*2)) (k*2+2) (by rw[hdl,hs];omega);have FL:=JZ (xs:=gb.cs x) ht (show k*2<=X.length by omega) (m:=2) D (by rw[hs];omega);obtain⟨cur1,hc1⟩:=fe (splice cur (k*2+2) (X.drop (k*2)));rw[<-hc1] at c1l FL;have c2l:=we cur1 (gb.cs x) (k*2) (by rw[c1l,hs];simp[gb.cs];omega);obtain⟨cur2,hc2⟩:=fe (splice cur1 (k*2) (gb.cs x));rw[<-hc2] at FL c2l;have hbg:b<=g:=by
  obtain⟨g',e,hb,_⟩:=h.at (f:=gb.cs) (λ_=>rfl) k om;injection e with e;injection e with e;subst e;exact hb
 have hcap:cap<=9223372036854775807:=by
  obtain⟨A',cap',e1,_,e2⟩:=h.form;injection e1 with _ _ e3
  omega
 have hov:∀ lb cb,(callFunc 386 #[Z (G ⟨g2,0,E⟩) 1 1,Z (G ⟨g,(k+1)*2,E⟩) lb cb]).run prog w= .ok (.value (.bool z)) w:=λlb cb=>by
  rw[run_callFunc_extern func386 kr kr kr (e:=Extern.SlicesOverlaps.overlaps #[129,129] #[4]) kr,
   Lib.run_overlaps_apart w 129 4 244 underlying129 2 (λw=>eG) ⟨g2,0,E⟩ ⟨g,(k+1)*2,E⟩ 1 1 lb cb hne 244 244 2 cur.length (by unfold World.shape?;rw[hB];rfl) (by unfold World.shape?;rw[hg];rfl) (by rw[hs];omega) (Bk.fr hB 0) (Bk.fr hB 2)]
  rfl
 have W1c:∀ ty dc sc,(Builtin.copy_ #[129,129] ty #[Z (G ⟨g,(k+1)*2,E⟩) (n - k) dc,Z (G ⟨g,k*2,E⟩) (n+1 - k) sc]).run prog w.drew= .ok (goInt (Nat.min (n+1 - k) (n - k))) (w.drew.setRow g cur1.toArray):=λty dc sc=>by
  rw[hc1,AU,show k*2+2=(k+1)*2 by omega];exact kT w.drew _ _ ty 244 2 g ((k+1)*2) (n - k) dc ⟨g,k*2,E⟩ (n+1 - k) sc cur.toArray 244 (X.drop (k*2)) underlying129 tN hg (by rw[hdl,show Nat.min (n+1 - k) (n - k)=n - k from Nat.min_eq_right om])
   (λj v hj=>by
    rw[dZ] at hj;have:=hXs.ce _ D (k*2+j) v hj;rw[Addr.add_lit] at this ⊢;rw[aZ] at this;exact this) (by simp[hs,hdl];omega) (λv hv=>hXs.one v (List.mem_of_mem_drop hv))
 have hg1:(w.drew.setRow g cur1.toArray).heap[g]?=G (.cells cur1.toArray 244 (0,0)):=setRow_heap w.drew g _ _ _ _ hg;have hb1:Bk (w.drew.setRow g cur1.toArray) g2 244 #[C x.u,I J x.t]:=((yt (pO w.drew (G g)) cur1.toArray).block g2 (aa2.1 hB).1 (by intro e;injection e with e;exact hne e)).trans hB;have W2c:∀ ty dc,(Builtin.copy_ #[129,129] ty #[Z (G ⟨g,k*2,E⟩) (n+1 - k) dc,Z (G ⟨g2,0,E⟩) 1 1]).run prog (w.drew.setRow g cur1.toArray)= .ok (goInt (Nat.min 1 (n+1 - k))) ((w.drew.setRow g cur1.toArray).setRow g cur2.toArray):=λty dc=>by
  rw[hc2,AU];exact kT _ _ _ ty 244 2 g (k*2) (n+1 - k) dc ⟨g2,0,E⟩ 1 1 cur1.toArray 244 (gb.cs x) underlying129 tN hg1 (by rw[show Nat.min 1 (n+1 - k)=1 from cM om];rfl)
   (λj v hj=>by
    rw[Addr.add_lit,aZ,Bk.ce hb1 j,bT];exact hj) (by simp[c1l,hs,gb.cs];omega) (mB x)
 have FIN:=H (show Rw gb.cs 244 2 ((w.drew.setRow g cur1.toArray).setRow g cur2.toArray) b (Z (G ⟨g,0,E⟩) (n+1) cap) (L.take k++x::L.drop k)/\w.grownBy ((w.drew.setRow g cur1.toArray).setRow g cur2.toArray) (G g) by
  refine⟨?_,yt (yt (Jc (pO _ _)) _) _⟩;have hll:(L.take k++x::L.drop k).length=n+1:=by simp;omega
  have hfl:=EK gb.cs 2 (λ_=>rfl) L k x;unfold Rw;rw[hll,hfl,<-hX];refine⟨by simp[hXl,gb.cs];omega,.inr ⟨g,cap,cur2.toArray,D,hbg,setRow_heap _ g _ _ _ _ hg1,hc,eQ,by simp[c2l,c1l,hs],?_⟩⟩;rw[<-FL,show(n+1)*2=X.length+2 by omega])
 clear h hg hs ht hX hXl hXs hdl c1l FL c2l hc1 hc2 hbg hb1 hB hnl;have mixed:prog.follows Departure.mixedOrders=Q:=kr;have e2:((k:Int)==(n:Int))=z:=by rw[aX];omega
 have hw1:IntKind.i64.wrap ((k:Int)+1)=(k:Int)+1:=by rw[IntKind.wrap_i64];omega
 have hb1:(0:Int)<=(k:Int)+1:=om;have hin:k<=n:=om;have hb2:¬(cap=k+1):=om;have hb3:(k:Int)<=(n:Int)+1:=om;have hb4:¬(cap=k):=om
 go_enter func339,ntmps339
 go_wp2_with (simp only[hov])
 go_region_law_o (refine step_copy_runI D _ _ 129 129 D _ _ jk jk (W1c _ _ _) ?_)
 go_wp2_with (at_builtin;refine wpList_copy_runI _ D _ _ 129 129 D _ _ D D (W2c _ _) ?_)
 go_ret;exact⟨_,D,FIN.out.1,FIN.out.2⟩
theorem Ph (L)(x:gb)(g n cap g2 b k:Nat)(w)(h:Rw gb.cs 244 2 w b (Z (G ⟨g,0,E⟩) n cap) L)(hB:Bk w g2 244 #[C x.u,I J x.t])(hnl:n=L.length)(hn:n<=1000)(hk:k<n)(hc:cap<n+1)(hbw:b<=w.heap.size):
 Calls prog 339 #[Z (G ⟨g,0,E⟩) n cap,I J k,Z (G ⟨g2,0,E⟩) 1 1] w (Hr L x k b (Z (G ⟨g,0,E⟩) n cap) w):=by
 unfold Hr;obtain⟨X,hX⟩:=fe (L.flatMap gb.cs);have hXl:X.length=n*2:=by rw[hX,hnl];exact h.1
 have hXs:=Rw.sl mB h;rw[<-hX] at hXs;have hnc:n<=cap:=by
  obtain⟨A',cap',e1,e2,_⟩:=h.form;injection e1 with _ _ e3
  omega
 have hgw:g<w.heap.size:=by
  obtain⟨g',e,_,hb,_⟩:=h.at (f:=gb.cs) (λ_=>rfl) k om;injection e with e;injection e with e;subst e;exact hb
 have hg2w:g2<w.heap.size:=(aa2.1 hB).1;have hdl:(X.drop (k*2)).length=(n - k)*2:=by rw[bm,hXl];omega
 obtain⟨i0,z0,hi0,hz0,hzs,hzb,hzc⟩:=F5.i;have hold:(Builtin.firstCells i0.size k (Z (G ⟨g,0,E⟩) k cap)).run prog w.drew= .ok (X.take (k*2)).toArray w.drew:=by
  rw[hzs];exact run_firstCells_some w.drew 2 k ⟨g,0,E⟩ k cap (X.take (k*2)) (by rw[aK,hXl];omega) (λj v hj=>by
   rw[bE] at hj
   split at hj
   ·exact hXs.ce _ D j v hj
   ·cases hj)
 have hkk:(n:Int)+1 - (k:Int)=((n+1 - k:Nat):Int):=om;have hik:k+(n+1 - k)=n+1:=om;obtain⟨an,hG⟩:=fe (grownCap w (n+1) cap 244);obtain⟨ROW,hROW⟩:∃ ROW:List Value,ROW.toArray=(X.take (k*2)).toArray++Builtin.zeroCells z0.cells (n+1 - k)++Builtin.zeroCells z0.cells (an - (n+1)):=⟨_,Array.toArray_toList⟩;have hrz:∀ ty,(Builtin.append_ #[129,3] ty #[Z (G ⟨g,0,E⟩) k cap,I J ((n:Int)+1 - (k:Int))]).run prog w=
  .ok (Z (G ⟨w.heap.size,0,E⟩) (n+1) an) (w.drew.alloc (.cells ROW.toArray 244)):=λty=>by
  have h:=Lib.run_append_grow_zeros w 129 3 ty 244 i0 z0 .i64 .i64 underlying129 underlying3 hi0 hz0 (G ⟨g,0,E⟩) k cap (X.take (k*2)) hold (n+1 - k) om om om om (by rw[hzb];omega) (by rw[hzb,hik];exact growslice_fits hc om);rw[hik,<-hG,<-hROW] at h;rw[hkk];exact h
 have hzl:∀ m,(Builtin.zeroCells z0.cells m).size=m*2:=λm=>by rw[size_zeroCells,hzc]
 have hGn:n+1<=an:=by rw[hG];exact grownCap_ge w _ _ _
 have hG63:an<=9223372036854775807:=by
  have:=grownCap_le_maxLen w (n+1) cap 244 eQ;rw[<-hG] at this;unfold maxLen at this;omega
 have hRl:ROW.length=an*2:=by
  have e:=aP Array.size hROW;simp only[dN,Array.size_append,hzl,aK,hXl] at e;omega
 have hRt:ROW.take (k*2)=X.take (k*2):=by
  have e:=aP Array.toList hROW;simp only[Array.toList_append] at e;rw[e,aS,List.take_left' (by rw[aK,hXl];omega)]
 have FL:=Nf (xs:=gb.cs x) hRt (show k*2<=X.length by omega) (m:=2) D om;have c1l:=we ROW (gb.cs x) (k*2) (by rw[hRl];simp[gb.cs];omega);obtain⟨R1,hR1⟩:=fe (splice ROW (k*2) (gb.cs x));rw[<-hR1] at c1l FL;have c2l:=we R1 (X.drop (k*2)) (k*2+2) (by rw[c1l,hRl,hdl];omega);obtain⟨R2,hR2⟩:=fe (splice R1 (k*2+2) (X.drop (k*2)));rw[<-hR2] at c2l FL;obtain⟨W1,hW1⟩:=fe (w.drew.alloc (.cells ROW.toArray 244));rw[<-hW1] at hrz;have k1:W1.heap[w.heap.size]?=G (.cells ROW.toArray 244 (0,0)):=by rw[hW1];exact eL w.drew _
 have k2:Bl w W1:=by rw[hW1];exact Bl.al Bl.eH.dr _
 have k3:(W1.setRow w.heap.size R1.toArray).heap[w.heap.size]?=G (.cells R1.toArray 244 (0,0)):=setRow_heap W1 _ _ _ _ _ k1;have k4:w.grownBy (W1.setRow w.heap.size R1.toArray) (G w.heap.size):=yt (mJ k2 _) _;have cA:∀ (W:World),W.heap=W1.heap->∀ ty dc,(Builtin.copy_ #[129,129] ty #[Z (G ⟨w.heap.size,k*2,E⟩) (n+1 - k) dc,Z (G ⟨g2,0,E⟩) 1 1]).run prog W= .ok (goInt (Nat.min 1 (n+1 - k))) (W.setRow w.heap.size R1.toArray):=λW hW ty dc=>by
  rw[hR1,AU];have hb2:Bk W g2 244 #[C x.u,I J x.t]:=by show W.heap[g2]?=_;rw[hW];exact k2.bl hB
  exact kT _ _ _ ty 244 2 w.heap.size (k*2) (n+1 - k) dc ⟨g2,0,E⟩ 1 1 ROW.toArray 244 (gb.cs x) underlying129 tN (by rw[hW];exact k1) (by rw[show Nat.min 1 (n+1 - k)=1 from cM om];rfl)
   (λj v hj=>by
    rw[Addr.add_lit,aZ,Bk.ce hb2 j,bT];exact hj) (by simp[hRl,gb.cs];omega) (mB x)
 have cB:∀ (W:World),W.heap=(W1.setRow w.heap.size R1.toArray).heap->∀ ty dc sc,(Builtin.copy_ #[129,129] ty #[Z (G ⟨w.heap.size,(k+1)*2,E⟩) (n - k) dc,Z (G ⟨g,k*2,E⟩) (n - k) sc]).run prog W= .ok (goInt (Nat.min (n - k) (n - k))) (W.setRow w.heap.size R2.toArray):=λW hW ty dc sc=>by
  rw[hR2,AU,show k*2+2=(k+1)*2 by omega];exact kT W _ _ ty 244 2 w.heap.size ((k+1)*2) (n - k) dc ⟨g,k*2,E⟩ (n - k) sc R1.toArray 244 (X.drop (k*2)) underlying129 tN (by rw[hW];exact k3) (by rw[hdl,show Nat.min (n - k) (n - k)=n - k from Nat.min_self _])
   (λj v hj=>by
    rw[dZ] at hj;have:=hXs.ce _ D (k*2+j) v hj;rw[Addr.add_lit] at this ⊢;rw[aZ] at this;rw[ab2 (w:=w) (by show W.heap[g]?=_;rw[hW];exact k4.block g hgw (by intro e;injection e with e;omega))];exact this) (by simp[c1l,hRl,hdl];omega) (λv hv=>hXs.one v (List.mem_of_mem_drop hv))
 have FIN:=H (λ(W:World) (h1:W.heap=((W1.setRow w.heap.size R1.toArray).setRow w.heap.size R2.toArray).heap) (h2:W.os=w.os) (h3:W.tape=w.tape) (h4:W.output=w.output)=>show Rw gb.cs 244 2 W b (Z (G ⟨w.heap.size,0,E⟩) (n+1) an) (L.take k++x::L.drop k)/\w.grownBy W (G g) by
  have k5:w.grownBy ((W1.setRow w.heap.size R1.toArray).setRow w.heap.size R2.toArray) (G w.heap.size):=yt k4 _;refine⟨?_,h2,h3,h4,by rw[h1];exact k5.size,λq hq _=>by rw[h1];exact k5.block q hq (by intro e;injection e with e;omega)⟩;have hll:(L.take k++x::L.drop k).length=n+1:=by simp;omega
  have hfl:=EK gb.cs 2 (λ_=>rfl) L k x;unfold Rw;rw[hll,hfl,<-hX];refine⟨by simp[hXl,gb.cs];omega,.inr ⟨w.heap.size,an,R2.toArray,D,hbw,by rw[h1];exact setRow_heap _ _ _ _ _ _ k3,hGn,eQ,by simp[c2l,c1l,hRl],?_⟩⟩;rw[<-FL,show(n+1)*2=X.length+2 by omega])
 have kh:W1.heap=(w.alloc (.cells ROW.toArray 244)).heap:=by rw[hW1];rfl
 clear h hX hXl hXs hdl hkk hik hold hG hROW hzl hRl hRt FL c1l hR1 c2l hR2 hB hnl hzs hzb hzc;subst hW1;have mixed:prog.follows Departure.mixedOrders=Q:=kr;have e2:((k:Int)==(n:Int))=z:=by rw[aX];omega
 have e3:(cap:Int)<(n:Int)+1:=om;have hw1:IntKind.i64.wrap ((k:Int)+1)=(k:Int)+1:=by rw[IntKind.wrap_i64];omega
 have hb1:(0:Int)<=(k:Int)+1:=om;have hin:k<=n:=om;have hGi:¬(an=k):=om;have hGim:¬(an=k+1):=om;have hci:¬(cap=k):=om;have hb3:(k:Int)<=n:=om;have cA2:=cA ((w.alloc (.cells ROW.toArray 244)).drew) D;have cB2:=cB ((((w.alloc (.cells ROW.toArray 244)).drew).setRow w.heap.size R1.toArray).drew) D;clear kh cA cB
 go_enter func339,ntmps339
 go_wp2_with (first | (at_builtin;refine Lib.wpList_append_run _ D _ _ _ _ D _ _ D D _ _ (hrz _) ?_) | (at_builtin;refine wpList_copy_runI _ D _ _ 129 129 D _ _ D D (cA2 _ _) ?_))
 go_region_law_o (refine step_copy_runI D _ _ 129 129 D (Z (G ⟨w.heap.size,(k+1)*2,E⟩) (n - k) (an - (k+1))) (Z (G ⟨g,k*2,E⟩) (n - k) (cap - k)) jk jk (cB2 _ _ _) ?_)
 go_wp2_with fail
 go_ret;exact⟨_,D,FIN _ (by rfl) (by rfl) (by rfl) (by rfl)⟩
theorem GX (L)(x:gb)(A)(n cap g2 b k:Nat)(w)(h:Rw gb.cs 244 2 w b (Z A n cap) L)(hB:Bk w g2 244 #[C x.u,I J x.t])(hne:(Value.slice A n cap).ownBlock≠G g2)(hn:L.length<=1000)(hk:k<=L.length)(hbw:b<=w.heap.size):
 Calls prog 339 #[Z A n cap,I J k,Z (G ⟨g2,0,E⟩) 1 1] w (Hr L x k b (Z A n cap) w):=by
 have hnl:n=L.length:=by
  obtain⟨A',cap',e1,_,_⟩:=h.form;injection e1
 by_cases hk2:k=n
 ·subst hk2;exact TJ L x A k cap g2 b w h hB hnl om hbw
 ·cases A with
  | none=>have:=h.qE.1;omega
  | some ad=>
   obtain⟨g,e,_⟩:=h.at (f:=gb.cs) (λ_=>rfl) 0 om;injection e with e
   subst e;by_cases hc:n+1<=cap
   ·exact Pg L x g n cap g2 b k w h hB (λe=>hne (by rw[e];rfl)) hnl om om hc
   ·exact Ph L x g n cap g2 b k w h hB hnl om om om hbw
theorem rW{n2:Nat}{v}(h:w.ownsRow b t sz v n xs)(h2:w.ownsRow b2 t2 sz2 v2 n2 xs2)(ht:t≠t2)(hg:w.grownBy W v2.ownBlock):W.ownsRow b t sz v n xs:=by
 rcases h2.2 with⟨hv,_⟩ | ⟨g,cap,cur,hv,_,hh,_⟩
 ·rw[hv] at hg;refine⟨h.1,?_⟩;rcases h.2 with k | ⟨g',cap',cur',hv',hg',hh',r⟩
  ·exact .inl k
  ·exact .inr ⟨g',cap',cur',hv',hg',(hg.block g' (aa2.1 hh').1 aaP).trans hh',r⟩
 ·rw[hv] at hg;exact pJ h hh ht hg
theorem vL{n2:Nat}{cs}(h:Bk w A t cs)(h2:w.ownsRow b2 t2 sz2 v2 n2 xs2)(ht:t≠t2)(hg:w.grownBy W v2.ownBlock):Bk W A t cs:=by
 rcases h2.2 with⟨hv,_⟩ | ⟨g,cap,cur,hv,_,hh,_⟩
 ·rw[hv] at hg;exact(hg.block A (aa2.1 h).1 aaP).trans h
 ·rw[hv] at hg;refine(hg.block A (aa2.1 h).1 λe=>?_).trans h;have e:A=g:=by injection e
  subst e;have h':w.heap[A]?=G (.cells cs t):=h;rw[h'] at hh;injection hh with hh
  injection hh with _ e2
  exact ht e2
theorem iw.st(h:iw w W)(hA:w.heap.size<=A)(i:Nat)(u):iw w (W.setCell ⟨A,i,E⟩ u):=λg t cs a b c=>
 (aa0 W ⟨A,i,E⟩ u g (by have:=(aa2.1 a).1;show g≠A;omega)).trans (h g t cs a b c)
theorem iw.own{v}(h:W.ownsRow b t sz v n xs)(hg:W.grownBy W' v.ownBlock)(ht:t=282∨t=244):iw W W':=by
 rcases h.2 with⟨hv,_⟩ | ⟨g,cap,cur,hv,_,hh,_⟩
 ·rw[hv] at hg;exact λk t2 cs2 a _ _=>(hg.block k (aa2.1 a).1 aaP).trans a
 ·rw[hv] at hg;exact iw.gr hg hh ht
structure SB (V w0:World)(A:Nat)(K:List (Nat×TypeId×Array Value))(s:St)(vo vu vs vt:Value)(ul:List UC)(W:World):Prop where
 bl:Bl V W
 hV:V.heap.size<=w0.heap.size
 hA:w0.heap.size<=A
 fr:iw w0 W
 a:Bk W A 131 #[I J s.now,I J s.fb,vo,vu,vs,vt]
 r:oD W V.heap.size vo vu vs vt s ul
 hK:∀ x∈K,x.1≠A/\x.2.1≠282/\x.2.1≠244
 k:∀ x∈K,Bk W x.1 x.2.1 x.2.2
section
variable {V w0 W W':World}{A:Nat}{K:List (Nat×TypeId×Array Value)}{s:St}{vo vu vs vt:Value}{ul:List UC}
theorem SB.ca (h:SB V w0 A K s vo vu vs vt ul W)(hb:Bl W W'):SB V w0 A K s vo vu vs vt ul W':=
 ⟨h.bl.ca hb,h.hV,h.hA,h.fr.ca (.of hb),hb.bl h.a,h.r.bl hb,h.hK,λx hx=>hb.bl (h.k x hx)⟩
theorem SB.st (h:SB V w0 A K s vo vu vs vt ul W)(i:Nat)(u):Bl V (W.setCell ⟨A,i,E⟩ u)/\oD (W.setCell ⟨A,i,E⟩ u) V.heap.size vo vu vs vt s ul/\(∀ x∈K,Bk (W.setCell ⟨A,i,E⟩ u) x.1 x.2.1 x.2.2)/\iw w0 (W.setCell ⟨A,i,E⟩ u):=
 ⟨h.bl.st (aH h.hV h.hA) u,h.r.fw h.a i,λx hx=>(aa0 W ⟨A,i,E⟩ u x.1 (h.hK x hx).1).trans (h.k x hx),h.fr.st h.hA i u⟩
theorem SB.op (h:SB V w0 A K s vo vu vs vt ul W){l}{v}(hr:Rw fl.cs 289 4 W V.heap.size v l):SB V w0 A K {s with op:=l} v vu vs vt ul (W.setCell ⟨A,2,E⟩ v):=
 let⟨h1,h2,h3,h4⟩:=h.st 2 v;⟨h1,h.hV,h.hA,h4,h.a.set 2 v,⟨hr.fw h.a dc 2,h2.hu,h2.hl,h2.hs,h2.ht⟩,h.hK,h3⟩
theorem SB.sb (h:SB V w0 A K s vo vu vs vt ul W){l}{v}(hr:Rw Sub.cs 293 4 W V.heap.size v l):SB V w0 A K {s with sb:=l} vo vu v vt ul (W.setCell ⟨A,4,E⟩ v):=
 let⟨h1,h2,h3,h4⟩:=h.st 4 v;⟨h1,h.hV,h.hA,h4,h.a.set 4 v,⟨h2.ho,h2.hu,h2.hl,hr.fw h.a dc 4,h2.ht⟩,h.hK,h3⟩
theorem SB.us (h:SB V w0 A K s vo vu vs vt ul W){ul'}{us'}{v}(hg:W.grownBy W' vu.ownBlock)(hr:Rw UC.cs 282 2 W' V.heap.size v ul')(hl:uE W (λ_=>V.heap.size) ul' us'):SB V w0 A K {s with us:=us'} vo v vs vt ul' (W'.setCell ⟨A,3,E⟩ v):=by
 have ha:=vL h.a h.r.hu dc hg;have hb:Bl V W':=h.bl.gr hg λk hk=>(h.r.hu.lt k hk).1;refine⟨hb.st (aH h.hV h.hA) v,h.hV,h.hA,(h.fr.ca (iw.own h.r.hu hg (.inl D))).st h.hA 3 v,ha.set 3 v,⟨Rw.fw (rW h.r.ho h.r.hu dc hg) ha dc 3,hr.fw ha dc 3,uE.fw ⟨hl.1,λj h1 h2=>⟨(hl.2 j h1 h2).1,rW (hl.2 j h1 h2).2 h.r.hu dc hg⟩⟩ ha dc 3,Rw.fw (rW h.r.hs h.r.hu dc hg) ha dc 3,Rw.fw (rW h.r.ht h.r.hu dc hg) ha dc 3⟩,h.hK,λx hx=>?_⟩;exact(aa0 W' ⟨A,3,E⟩ v x.1 (h.hK x hx).1).trans (vL (h.k x hx) h.r.hu (h.hK x hx).2.1 hg)
theorem SB.tb (h:SB V w0 A K s vo vu vs vt ul W){l}{v}(hg:W.grownBy W' vt.ownBlock)(hr:Rw gb.cs 244 2 W' V.heap.size v l):SB V w0 A K {s with tb:=l} vo vu vs v ul (W'.setCell ⟨A,5,E⟩ v):=by
 have ha:=vL h.a h.r.ht dc hg;have hb:Bl V W':=h.bl.gr hg λk hk=>(h.r.ht.lt k hk).1;refine⟨hb.st (aH h.hV h.hA) v,h.hV,h.hA,(h.fr.ca (iw.own h.r.ht hg (.inr D))).st h.hA 5 v,ha.set 5 v,⟨Rw.fw (rW h.r.ho h.r.ht dc hg) ha dc 5,Rw.fw (rW h.r.hu h.r.ht dc hg) ha dc 5,uE.fw ⟨h.r.hl.1,λj h1 h2=>⟨(h.r.hl.2 j h1 h2).1,rW (h.r.hl.2 j h1 h2).2 h.r.ht dc hg⟩⟩ ha dc 5,Rw.fw (rW h.r.hs h.r.ht dc hg) ha dc 5,hr.fw ha dc 5⟩,h.hK,λx hx=>?_⟩;exact(aa0 W' ⟨A,5,E⟩ v x.1 (h.hK x hx).1).trans (vL (h.k x hx) h.r.ht (h.hK x hx).2.2 hg)
theorem SB.fb (h:SB V w0 A K s vo vu vs vt ul W)(t:Int):SB V w0 A K {s with fb:=t} vo vu vs vt ul (W.setCell ⟨A,1,E⟩ (I J t)):=
 let⟨h1,h2,h3,h4⟩:=h.st 1 (I J t);⟨h1,h.hV,h.hA,h4,h.a.set 1 _,⟨h2.ho,h2.hu,h2.hl,h2.hs,h2.ht⟩,h.hK,h3⟩
theorem SB.now (h:SB V w0 A K s vo vu vs vt ul W)(t:Int):SB V w0 A K {s with now:=t} vo vu vs vt ul (W.setCell ⟨A,0,E⟩ (I J t)):=
 let⟨h1,h2,h3,h4⟩:=h.st 0 (I J t);⟨h1,h.hV,h.hA,h4,h.a.set 0 _,⟨h2.ho,h2.hu,h2.hl,h2.hs,h2.ht⟩,h.hK,h3⟩
theorem iw.kO(h:iw w W)(hA:w.heap.size<=A)(a b c d e f):iw w (kS W A a b c d e f):=(((((h.st hA 0 a).st hA 1 b).st hA 2 c).st hA 3 d).st hA 4 e).st hA 5 f
end
theorem uE.filter(p:ay->Bool):∀ {ul:List UC} {us:List il},uE w (λ_=>b) ul us->uE w (λ_=>b) (ul.filter λx=>p x.u) (us.filter λx=>p x.u)
 | [],[],_=>⟨D,λ_ h=>absurd h sm⟩
 | [],_::_,h=>absurd h.1 sm
 | _::_,[],h=>absurd h.1 sm
 | x::r,y::q,h=>by
   have h0:=h.2 0 sm sm;simp only[cU] at h0;have ih:=uE.filter p (ul:=r) (us:=q) ⟨by simpa using h.1,λj h1 h2=>by have:=h.2 (j+1) gM (by simpa using h2);simpa using this⟩;rw[List.filter_cons,List.filter_cons,h0.1];cases p y.u with
   | false=>exact ih
   | true=>
    simp only[if_true];refine⟨by simpa using ih.1,λj h1 h2=>?_⟩;cases j with
    | zero=>exact h0
    | succ j=>exact ih.2 j gM (by simpa using h2)
theorem aah(u)(W:World)(x)(hX:W.cell? ⟨X,0,E⟩=G (C u)):aai 334 #[.agg (UC.cs x).toArray,.pointer (G ⟨X,0,E⟩)] W (.bool (decide (x.u=u))):=by
 obtain⟨y,P,n,c⟩:=x;show Calls prog 334 #[.agg #[C y,Z P n c],.pointer (G ⟨X,0,E⟩)] W _;have hX1:=(gl W (.cells #[C y,Z P n c] 282)).ce hX;clear hX;have E1:(y.toList==u.toList)=decide (y=u):=gS;generalize decide (y=u)=p at E1 ⊢
 go_enter func334,ntmps334
 go_wp2
 go_ret;exact⟨D,gl _ _⟩
theorem aag(u)(W:World)(x)(hX:W.cell? ⟨X,0,E⟩=G (C u)):aai 336 #[.agg (gb.cs x).toArray,.pointer (G ⟨X,0,E⟩)] W (.bool (decide (x.u=u))):=by
 obtain⟨y,t⟩:=x;show Calls prog 336 #[.agg #[C y,I J t],.pointer (G ⟨X,0,E⟩)] W _;have hX1:=(gl W (.cells #[C y,I J t] 244)).ce hX;clear hX;have E1:(y.toList==u.toList)=decide (y=u):=gS;generalize decide (y=u)=p at E1 ⊢
 go_enter func336,ntmps336
 go_wp2
 go_ret;exact⟨D,gl _ _⟩
theorem Ze:Fz bf:=⟨gj,λh h'=>ij h h',λh=>gQ h⟩
def Lu (s:St)(u:ay)(t:Int):St:={s with op:=s.op.filter λx=>!(decide (x.u=u)),sb:=s.sb.filter λx=>!(B8 x.w x.u u),us:=s.us.filter λx=>!(decide (x.u=u)),tb:=sJ bf (s.tb.filter λx=>!(decide (x.u=u))) ⟨u,t⟩}
theorem zI{v}{cs}(h:w.ownsRow b t sz v n xs)(hB:Bk w A t2 cs)(ht:t≠t2):v.ownBlock≠G A:=by
 rcases h.2 with⟨hv,_⟩ | ⟨g,cap,cur,hv,_,hh,_⟩
 ·rw[hv];simp[Value.ownBlock]
 ·rw[hv];intro e;have e:g=A:=by injection e
  subst e;have h':w.heap[g]?=G (.cells cs t2):=hB;rw[h'] at hh;injection hh with hh
  injection hh with _ e2
  exact ht e2.symm
theorem plT (L)(u:ay)(v)(b:Nat)(w)(h:Rw gb.cs 244 2 w b v L)(hn:L.length<=1000)(ho:Ord gb.u bf L):
 Calls prog 337 #[v,C u,.func (.func 338) #[] #[]] w λe w'=>∃ B,e= .returned (.tuple #[I J (pH gb.u bf L u),.bool B])/\Bl w w':=
 (Wn L u v b (pH gb.u bf L u) w h hn (Bi _ _) (λi hi hk=>uT _ _ i hi hk) (λi hi hk=>xR Ze _ _ i hi ho hk)).mono λ_ _ ⟨h1,h2⟩=>⟨_,h1,h2⟩
theorem Hb (s)(v)(u:ay)(t:Int)(V w:World)(h:iW w V.heap.size v s)(hn:pY 60 s)(ho:Ord gb.u bf s.tb)(hV:Bl V w):
 Calls prog 264 #[v,C u,I J t] w (UO V w V.heap.size (Lu s u t)):=by
 obtain⟨vo,vu,vs,vt,ul,rfl,hr⟩:=h;unfold jd;have n1:=hn.no;have n2:=hn.nu;have n3:=hn.ns;have n4:=hn.nt;obtain⟨n5,CO,CS⟩:=gi hr.hl.1 (λW (hb:Bl w W)=>VQ u s.op vo _ W (hr.ho.bl hb) om) (λW (hb:Bl w W)=>R4 u s.sb vs _ W (hr.hs.bl hb) om);obtain⟨Ao,co,rfl,_,_⟩:=hr.ho.form;obtain⟨Au,cu,rfl,_,_⟩:=hr.hu.form;obtain⟨As,cs,rfl,_,_⟩:=hr.hs.form;obtain⟨At,ct,rfl,_,_⟩:=hr.ht.form;obtain⟨A,W0,hA,hW0,BA,BX,BY,HB,HAw,SV⟩:=qh w #[I J s.now,I J s.fb,Z Ao s.op.length co,Z Au ul.length cu,Z As s.sb.length cs,Z At s.tb.length ct] 131 #[C u] 9 #[av,av,aw,aw,aw,aw] 131;obtain⟨a0,a1,a2,a3,a4,a5⟩:=jg BA;have x0:=BX.all 0 D;obtain⟨y0,y1,y2,y3,y4,y5⟩:=jg BY;have hVA:V.heap.size<=A:=by have:=hV.size;have:=HAw.out;omega
 have hwA:w.heap.size<=A:=by rw[HAw.out];exact aB _
 have HS0:=H (show SB V w A [(A+1,9,#[C u]),(A+2,131,#[av,av,aw,aw,aw,aw])] s (Z Ao s.op.length co) (Z Au ul.length cu) (Z As s.sb.length cs) (Z At s.tb.length ct) ul W0 from
  ⟨hV.ca HB,hV.size,hwA,iw.of HB,BA,hr.bl HB,sm,nY⟩)
 clear hr;have HYS:YS V A 131 6 W0:=⟨HS0.bl,hVA,_,HS0.a,D⟩;obtain⟨F,hF⟩:=YS.fn V A 131 6;have z2:=λW (h:YS V A 131 6 W)=>hF W h 2 dc;have z4:=λW (h:YS V A 131 6 W)=>hF W h 4 dc;have zf:=λW j (h:YS V A 131 6 W)=>h.fr j;clear hF;replace CO:=H (λW (hb:Bl W0 W)=>CO W (HB.ca hb));replace CS:=H (λW (hb:Bl W0 W)=>CS W (HB.ca hb))
 go_enter func264,ntmps264
 go_upto_region 1 with fail
 rw[<-hW0,<-hA];clear hW0 hA;refine jI (T:=YS V A 131 6) (S:=Bl W0) [9,11] HYS.dr Bl.eH.dr λhT0 hS0=>?_
 try dsimp only at hT0 hS0
 refine qd 0 ?_;refine td 1 ?_;refine td 2 ?_;refine qd 4 ?_;refine td 5 ?_;refine ti 3 6 (λKQ hK=>?_) λKQ hK=>?_
 focus
  go_simp
  (go_at_call 331;refine aaj (CO _ hS0) λv1 w1 hr1 hb1=>?_)
  obtain⟨A1,c1,rfl,_,_⟩:=hr1.form;have hT1:=hT0.ca hb1;have hS1:=hS0.ca hb1;refine kq hK ?_;clear hK;refine qd 8 ?_;refine eK 6 λKQ hK=>?_;go_simp;have hT2:=hT1.ca Bl.eH;have hS2:=hS1.ca Bl.eH;refine kq hK ?_;clear hK;refine eK 7 λKQ hK=>?_;go_simp
  (go_at_call 332;refine aaj (CS _ hS2) λv2 w2 hr2 hb2=>?_)
  obtain⟨A2,c2,rfl,_,_⟩:=hr2.form;have hT3:=hT2.ca hb2;have hS3:=hS2.ca hb2;refine kq hK ?_;clear hK;refine eK 9 λKQ hK=>?_;go_simp;refine fJ (hK _ _) (hT3.st _ _) (eI (j:=9) kr kr) (λhT4=>?_)
  try dsimp only at hT4
  clear hK
  try simp only[fI]
  refine tz 10 hT4 (eI (j:=9) kr kr) ?_;refine eK 11 λKQ hK=>?_;go_simp;refine fJ (hK _ _) (hT4.st _ _) (eI (j:=11) kr kr) (λhT5=>?_)
  try dsimp only at hT5
  clear hK
  try simp only[fI]
  refine iU ?_
 rotate_left 1
 focus
  go_simp;have hT1:=hT0.ca Bl.eH;have hS1:=hS0.ca Bl.eH;refine kq hK ?_;clear hK;refine eK 3 λKQ hK=>?_;go_simp
  (go_at_call 331;refine aaj (CO _ hS1) λv1 w1 hr1 hb1=>?_)
  obtain⟨A1,c1,rfl,_,_⟩:=hr1.form;have hT2:=hT1.ca hb1;have hS2:=hS1.ca hb1;refine kq hK ?_;clear hK;refine qd 8 ?_;refine eK 7 λKQ hK=>?_;go_simp
  (go_at_call 332;refine aaj (CS _ hS2) λv2 w2 hr2 hb2=>?_)
  obtain⟨A2,c2,rfl,_,_⟩:=hr2.form;have hT3:=hT2.ca hb2;have hS3:=hS2.ca hb2;refine kq hK ?_;clear hK;refine eK 9 λKQ hK=>?_;go_simp;refine fJ (hK _ _) (hT3.st _ _) (eI (j:=9) kr kr) (λhT4=>?_)
  try dsimp only at hT4
  clear hK
  try simp only[fI]
  refine tz 10 hT4 (eI (j:=9) kr kr) ?_;refine eK 11 λKQ hK=>?_;go_simp;refine fJ (hK _ _) (hT4.st _ _) (eI (j:=11) kr kr) (λhT5=>?_)
  try dsimp only at hT5
  clear hK
  try simp only[fI]
  refine iU ?_
 rotate_left 1
 all_goals
  have hq:Bl W0 w1:=ms;have hq2:Bl W0 w2:=ms;have e0:W0.drew.heap.size=W0.heap.size:=rfl;have e1:=hV.size;have e2:=HB.size;have e3:=hq.size;have h1:=(HS0.ca hq2).op (fa (hr1.bl hb2) om);have h2:=h1.sb (Rw.fw (fa hr2 om) (HS0.ca hq2).a dc 2);clear hq;generalize (w2.setCell ⟨A,2,E⟩ _).setCell ⟨A,4,E⟩ _=W1 at*;have HAB:=H (aa2.1 (h2.k _ (.head _))).1;have x0:=Bk.ce (h2.k _ (.head _)) 0;obtain⟨k1,k2⟩:=nK (enc:=UC.cs) (p:=λx=>decide (x.u=u)) (X:=A+1) (aah u) x0;have DU:=H (zP.2.2.2.2.2 (λx=>decide (x.u=u)) Tryz.call334 W1 h2.r.hu k2 (λg hg=>k1 g (λe=>zI h2.r.hu (h2.k _ (.head _)) (show 282≠9 by decide) (by rw[<-e];exact hg))) (by have:=n5.out;omega));have H2:=H h2;have a3:=h2.a.ce 3
  go_upto_region 3 with(go_at_call 333;refine DU.mono ?_;rintro e w3 ⟨v3,rfl,hr3,hg3,_⟩;obtain⟨A3,c3,rfl,_,_⟩:=hr3.form;have kA:=vL H2.a H2.r.hu dc hg3;have q3:=kA.ce 3;have qf:=λj=>Bk.fr kA j;clear kA)
  have h3:=H2.us hg3 hr3 (uE.filter (λy=>!decide (y=u)) H2.r.hl);generalize w3.setCell ⟨A,3,E⟩ _=W3 at*;have x0:=Bk.ce (h3.k _ (.head _)) 0;obtain⟨k1,k2⟩:=nK (enc:=gb.cs) (p:=λx=>decide (x.u=u)) (X:=A+1) (aag u) x0;have DU:=H (zP.2.2.2.1 (λx=>decide (x.u=u)) Tryz.call336 W3 h3.r.ht k2 (λg hg=>k1 g (λe=>zI h3.r.ht (h3.k _ (.head _)) (show 244≠9 by decide) (by rw[<-e];exact hg))) jx);have H3:=H h3;have a5:=h3.a.ce 5
  go_upto_region 4 with(go_at_call 335;refine DU.mono ?_;rintro e w4 ⟨v4,rfl,hr4,hg4,_⟩;obtain⟨A4,c4,rfl,_,_⟩:=hr4.form;have kA:=vL H3.a H3.r.ht dc hg4;have q3:=kA.ce 5;have qf:=λj=>Bk.fr kA j;clear kA)
  have h4:=H3.tb hg4 hr4;generalize w4.setCell ⟨A,5,E⟩ _=W4 at*;have x0:=Bk.ce (h4.k _ (.head _)) 0;have a5:=h4.a.ce 5;obtain⟨F,hF,HF⟩:=nh (s.tb.filter λx=>!decide (x.u=u));have hoF:Ord gb.u bf F:=by rw[hF];exact ho.filter _
  have hlF:F.length<=60:=by rw[hF];exact aH (bp _ _) n4
  have PT:=H (plT F u _ _ W4 (by rw[hF];exact h4.r.ht) om hoF);rw[<-hF] at h4 a5 PT;have H4:=H h4;obtain⟨K,hK,HK⟩:=nh (pH gb.u bf F u);have hKl:K<=F.length:=by rw[hK];exact Bi _ _
  rw[<-hK] at PT;clear hF hK hoF
  go_upto_region 5 with(go_at_call 337;refine PT.mono ?_;rintro e w5 ⟨B5,rfl,hb5⟩)
  have H5:=H (H4.ca hb5);have x0:=Bk.ce (H5.k _ (.head _)) 0;have a5:=H5.a.ce 5;have qf:=λj=>Bk.fr H5.a j;have hA1:A<w5.heap.size:=(aa2.1 H5.a).1;have INS:=H ((GX F ⟨u,t⟩ A4 F.length c4 w5.heap.size V.heap.size K (w5.alloc (.cells #[C u,I J t] 244)) (H5.r.ht.bl (gl _ _)) (eL _ _) (λe=>by have:=(H5.r.ht.lt _ e).2;omega) om hKl (by have:=H5.bl.size;simp;omega)).mono
   (R':=λe w'=>∃ A6 n6 c6,e= .returned (Z A6 n6 c6)/\Rw gb.cs 244 2 w' V.heap.size (Z A6 n6 c6) (F.take K++⟨u,t⟩::F.drop K)/\(w5.alloc (.cells #[C u,I J t] 244)).grownBy w' (Value.slice A4 F.length c4).ownBlock)
   λe w' ⟨v',h1,h2,h3⟩=>by
    obtain⟨A6,c6,rfl,_,_⟩:=h2.form;exact⟨_,_,_,h1,h2,h3⟩)
  go_upto_region 6 with(go_at_call 339;refine INS.mono ?_;rintro e w6 ⟨A6,n6,c6,rfl,hr6,hg6⟩;have kA:=vL (fK _ H5.a) (H5.r.ht.bl (gl _ _)) dc hg6;have q3:=kA.ce 5;have qf:=λj=>Bk.fr kA j;clear kA)
  have h6:=(H5.ca (gl _ _)).tb hg6 hr6;generalize w6.setCell ⟨A,5,E⟩ _=W6 at*;have a0:=h6.a.ce 0;have a1:=h6.a.ce 1;have a2:=h6.a.ce 2;have a3:=h6.a.ce 3;have a4:=h6.a.ce 4;have a5:=h6.a.ce 5;have kY:Bk W6 (A+2) 131 _:=h6.k _ (.tail _ (.head _));have e0:=kY.ce 0;have e1:=kY.ce 1;have e2:=kY.ce 2;have e3:=kY.ce 3;have e4:=kY.ce 4;have e5:=kY.ce 5;have ef:=λj=>Bk.fr kY j;obtain⟨H6,KY⟩:=eN h6 kY;clear kY
  go_wp2_with fail
  have hV1:=hV.size;have hA2:=HAw.out;have hY:YS V (A+2) 131 6 W6:=⟨H6.bl,om,_,KY,D⟩;have HE:Lu s u t= {s with op:=s.op.filter λx=>!(decide (x.u=u)),sb:=s.sb.filter λx=>!(B8 x.w x.u u),us:=s.us.filter λx=>!(decide (x.u=u)),tb:=F.take K++⟨u,t⟩::F.drop K}:=by
   unfold Lu;rw[BJ,<-HF.out,show pH gb.u bf F (gb.mk u t).u=K from HK.out.symm]
  exact aa1 (eS (p:=6) D _ _ _ _ _ _ _ D (hY.kO _ _ _ _ _ _) underlying131 D iy) D ⟨_,D,⟨_,_,_,_,_,D,by rw[HE];exact H6.r.kO KY _ _ _ _ _ _⟩,H6.bl.kO om _ _ _ _ _ _,H6.fr.kO om _ _ _ _ _ _⟩
theorem Rw.fR {α:Type}{f:α->List Value}{v}{L:List α}(h:Rw f t sz W b v L):∃ A n cap,v= Z A n cap:=let⟨A,c,e,_,_⟩:=h.form;⟨A,_,c,e⟩
theorem oD.nr {w}{b:Nat}{vo vu vs vt}{s}{ul}(h:oD w b vo vu vs vt s ul):type_of% (aJ h.ho.fR (aJ h.hu.fR (aJ h.hs.fR h.ht.fR))):=aJ h.ho.fR (aJ h.hu.fR (aJ h.hs.fR h.ht.fR))
theorem bl4 (w)(o p q r:Obj):Bl w ((((w.alloc o).alloc p).alloc q).alloc r):=(bl3 w o p q).al r
theorem bl5 (w)(o p q r t:Obj):Bl w (((((w.alloc o).alloc p).alloc q).alloc r).alloc t):=(bl4 w o p q r).al t
theorem SB.re{K:List (Nat×TypeId×Array Value)}{s s'}{ul ul'}(h:SB V w0 A K s vo vu vs vt ul W)(hf:iw W W')(hb:Bl V W')(hr:oD W' V.heap.size vo' vu' vs' vt' s' ul'):
 SB V w0 A K s' vo' vu' vs' vt' ul' (kS W' A (I J s'.now) (I J s'.fb) vo' vu' vs' vt'):=by
 have ha:=hf _ _ _ h.a dc dc;have hA:=h.hA;refine⟨hb.kO (aH h.hV hA) _ _ _ _ _ _,h.hV,hA,(h.fr.ca hf).kO hA _ _ _ _ _ _,((((((Bk.set ha 0 _).set 1 _).set 2 _).set 3 _).set 4 _).set 5 _),hr.kO ha _ _ _ _ _ _,h.hK,λx hx=>?_⟩;have k:=hf _ _ _ (h.k x hx) (h.hK x hx).2.1 (h.hK x hx).2.2;have f:=λ(W:World) (i:Nat) (v:Value) (k:Bk W x.1 x.2.1 x.2.2)=>show Bk (W.setCell ⟨A,i,E⟩ v) x.1 x.2.1 x.2.2 from(aa0 W ⟨A,i,E⟩ v x.1 (h.hK x hx).1).trans k;exact f _ 5 _ (f _ 4 _ (f _ 3 _ (f _ 2 _ (f _ 1 _ (f _ 0 _ k)))))
theorem SB.oth{K:List (Nat×TypeId×Array Value)}{s}{ul}{cs}(h:SB V w0 A K s vo vu vs vt ul W)(hB:Bk W B 112 cs)(hw:w0.heap.size<=B)(hA:A≠B)(hK:∀ x∈K,x.1≠B)(hbw:Bl w0 W)(hl:uE w0 (λ_=>V.heap.size) ul s.us)(a b c d:Value):
 SB V w0 A K s vo vu vs vt ul ((((W.setCell ⟨B,0,E⟩ a).setCell ⟨B,1,E⟩ b).setCell ⟨B,2,E⟩ c).setCell ⟨B,3,E⟩ d):=by
 have hVB:=aH h.hV hw;have kf:=λ(g:Nat) (t:TypeId) (c2:Array Value) (hg:g≠B) (W:World) (i:Nat) (v:Value) (k:Bk W g t c2)=>show Bk (W.setCell ⟨B,i,E⟩ v) g t c2 from(aa0 W ⟨B,i,E⟩ v g hg).trans k;refine⟨(((h.bl.st hVB _).st hVB _).st hVB _).st hVB _,h.hV,h.hA,(((h.fr.st hw 0 _).st hw 1 _).st hw 2 _).st hw 3 _,kf A _ _ hA _ 3 _ (kf A _ _ hA _ 2 _ (kf A _ _ hA _ 1 _ (kf A _ _ hA _ 0 _ h.a))),
  ⟨(((h.r.ho.fw hB dc 0).fw (hB.set 0 _) dc 1).fw ((hB.set 0 _).set 1 _) dc 2).fw (((hB.set 0 _).set 1 _).set 2 _) dc 3,(((h.r.hu.fw hB dc 0).fw (hB.set 0 _) dc 1).fw ((hB.set 0 _).set 1 _) dc 2).fw (((hB.set 0 _).set 1 _).set 2 _) dc 3,hl.bl ((((hbw.st hw _).st hw _).st hw _).st hw _),(((h.r.hs.fw hB dc 0).fw (hB.set 0 _) dc 1).fw ((hB.set 0 _).set 1 _) dc 2).fw (((hB.set 0 _).set 1 _).set 2 _) dc 3,(((h.r.ht.fw hB dc 0).fw (hB.set 0 _) dc 1).fw ((hB.set 0 _).set 1 _) dc 2).fw (((hB.set 0 _).set 1 _).set 2 _) dc 3⟩,h.hK,λx hx=>?_⟩
 have hx1:=hK x hx;exact kf _ _ _ hx1 _ 3 _ (kf _ _ _ hx1 _ 2 _ (kf _ _ _ hx1 _ 1 _ (kf _ _ _ hx1 _ 0 _ (h.k x hx))))
def Vr (V w:World)(s':St)(e:Ending)(w':World):Prop:=∃ v',e= .returned (.tuple #[v',av])/\iW w' V.heap.size v' s'/\Bl V w'/\iw w w'
theorem tm:(∀ (s:St) (v:Value) (t n st:Int) (u o:ay) (V w:World) (h:iW w V.heap.size v s) (hn:pY 60 s) (hu:Ord il.u bf s.us) (hV:Bl V w) (hc:kC s.op n=E) (hc2:s.op.length<16),Calls prog 209 #[v,Ev.v ⟨1,t,u,o,n,st⟩] w (Vr V w ({s with op:=oC s.op ⟨n,u,st,t⟩})))/\
 (∀ (s:St) (v:Value) (t n st:Int) (u o:ay) (V w:World) (h:iW w V.heap.size v s) (hn:pY 60 s) (hu:Ord il.u bf s.us) (hV:Bl V w) (x:fl) (hx:kC s.op n=G x) (hxu:x.u=u),Calls prog 209 #[v,Ev.v ⟨2,t,u,o,n,st⟩] w (Vr V w ({s with op:=yP s.op n st t,us:=qi bf s.us u (x.stay t)})))/\
 (∀ (s:St) (v:Value) (t n st:Int) (u o:ay) (V w:World) (h:iW w V.heap.size v s) (hn:pY 60 s) (hu:Ord il.u bf s.us) (hV:Bl V w) (x:fl) (hx:kC s.op n=G x) (hxu:x.u=u),Calls prog 209 #[v,Ev.v ⟨3,t,u,o,n,st⟩] w (Vr V w ({s with op:=tS s.op n,us:=qi bf s.us u (x.stay t)})))/\
 (∀ (s:St) (v:Value) (t n st:Int) (u o:ay) (V w:World) (h:iW w V.heap.size v s) (hn:pY 60 s) (hu:Ord il.u bf s.us) (hV:Bl V w) (hc:yu s.sb u o=z),Calls prog 209 #[v,Ev.v ⟨4,t,u,o,n,st⟩] w (Vr V w ({s with sb:=qe bf s.sb ⟨u,o,t,FE⟩})))/\
 (∀ (s:St) (v:Value) (t n st:Int) (u o:ay) (V w:World) (h:iW w V.heap.size v s) (hn:pY 60 s) (hu:Ord il.u bf s.us) (hV:Bl V w) (hc:yu s.sb u o=Q),Calls prog 209 #[v,Ev.v ⟨5,t,u,o,n,st⟩] w (Vr V w ({s with sb:=yV s.sb u o t})))/\
 (∀ (s:St) (v:Value) (t n st:Int) (u o:ay) (V w:World) (h:iW w V.heap.size v s) (hn:pY 60 s) (hu:Ord il.u bf s.us) (hV:Bl V w),Calls prog 209 #[v,Ev.v ⟨6,t,u,o,n,st⟩] w (Vr V w ({s with fb:=max s.fb n})))/\
 (∀ (s:St) (v:Value) (t n st:Int) (u o:ay) (V w:World) (h:iW w V.heap.size v s) (hn:pY 60 s) (hu:Ord il.u bf s.us) (ht:Ord gb.u bf s.tb) (hV:Bl V w),Calls prog 209 #[v,Ev.v ⟨7,t,u,o,n,st⟩] w (Vr V w (Lu s u t))):=by
 refine⟨?_,?_,?_,?_,?_,?_,?_⟩;intro s v t n st u o V w h hn hu hV hc hc2;rotate_left;intro s v t n st u o V w h hn hu hV x hx hxu;rotate_left;intro s v t n st u o V w h hn hu hV x hx hxu;rotate_left;intro s v t n st u o V w h hn hu hV hc;rotate_left;intro s v t n st u o V w h hn hu hV hc;rotate_left;intro s v t n st u o V w h hn hu hV;rotate_left;intro s v t n st u o V w h hn hu ht hV;rotate_left
 all_goals
  obtain⟨vo,vu,vs,vt,ul,rfl,hr⟩:=h;unfold jd Ev.v Ev.cells;simp only;have n1:=hn.no;have n2:=hn.nu;have n3:=hn.ns;have n4:=hn.nt;obtain⟨Ao,co,rfl,_,_⟩:=hr.ho.form;obtain⟨Au,cu,rfl,_,_⟩:=hr.hu.form;obtain⟨As,cs,rfl,_,_⟩:=hr.hs.form;obtain⟨At,ct,rfl,_,_⟩:=hr.ht.form;obtain⟨A,hA⟩:=fe w.heap.size
 obtain⟨W0,hW0⟩:=fe (((((w.alloc (.cells #[I J s.now,I J s.fb,Z Ao s.op.length co,Z Au ul.length cu,Z As s.sb.length cs,Z At s.tb.length ct] 131)).alloc (.cells #[I J 1,I J t,C u,C o,I J n,I J st] 115)).alloc (.cells #[av,av,aw,aw,aw,aw] 131)).alloc (.cells #[C u,C o] 117)).alloc (.cells #[av,av,av,av] 112));rotate_left;obtain⟨W0,hW0⟩:=fe (((((w.alloc (.cells #[I J s.now,I J s.fb,Z Ao s.op.length co,Z Au ul.length cu,Z As s.sb.length cs,Z At s.tb.length ct] 131)).alloc (.cells #[I J 2,I J t,C u,C o,I J n,I J st] 115)).alloc (.cells #[av,av,aw,aw,aw,aw] 131)).alloc (.cells #[C u,C o] 117)).alloc (.cells #[av,av,av,av] 112));rotate_left;obtain⟨W0,hW0⟩:=fe (((((w.alloc (.cells #[I J s.now,I J s.fb,Z Ao s.op.length co,Z Au ul.length cu,Z As s.sb.length cs,Z At s.tb.length ct] 131)).alloc (.cells #[I J 3,I J t,C u,C o,I J n,I J st] 115)).alloc (.cells #[av,av,aw,aw,aw,aw] 131)).alloc (.cells #[C u,C o] 117)).alloc (.cells #[av,av,av,av] 112));rotate_left;obtain⟨W0,hW0⟩:=fe (((((w.alloc (.cells #[I J s.now,I J s.fb,Z Ao s.op.length co,Z Au ul.length cu,Z As s.sb.length cs,Z At s.tb.length ct] 131)).alloc (.cells #[I J 4,I J t,C u,C o,I J n,I J st] 115)).alloc (.cells #[av,av,aw,aw,aw,aw] 131)).alloc (.cells #[C u,C o] 117)).alloc (.cells #[av,av,av,av] 112));rotate_left;obtain⟨W0,hW0⟩:=fe (((((w.alloc (.cells #[I J s.now,I J s.fb,Z Ao s.op.length co,Z Au ul.length cu,Z As s.sb.length cs,Z At s.tb.length ct] 131)).alloc (.cells #[I J 5,I J t,C u,C o,I J n,I J st] 115)).alloc (.cells #[av,av,aw,aw,aw,aw] 131)).alloc (.cells #[C u,C o] 117)).alloc (.cells #[av,av,av,av] 112));rotate_left;obtain⟨W0,hW0⟩:=fe (((((w.alloc (.cells #[I J s.now,I J s.fb,Z Ao s.op.length co,Z Au ul.length cu,Z As s.sb.length cs,Z At s.tb.length ct] 131)).alloc (.cells #[I J 6,I J t,C u,C o,I J n,I J st] 115)).alloc (.cells #[av,av,aw,aw,aw,aw] 131)).alloc (.cells #[C u,C o] 117)).alloc (.cells #[av,av,av,av] 112));rotate_left;obtain⟨W0,hW0⟩:=fe (((((w.alloc (.cells #[I J s.now,I J s.fb,Z Ao s.op.length co,Z Au ul.length cu,Z As s.sb.length cs,Z At s.tb.length ct] 131)).alloc (.cells #[I J 7,I J t,C u,C o,I J n,I J st] 115)).alloc (.cells #[av,av,aw,aw,aw,aw] 131)).alloc (.cells #[C u,C o] 117)).alloc (.cells #[av,av,av,av] 112));rotate_left
 all_goals
  have BA:Bk W0 A 131 #[I J s.now,I J s.fb,Z Ao s.op.length co,Z Au ul.length cu,Z As s.sb.length cs,Z At s.tb.length ct]:=by rw[hW0];exact fK _ (fK _ (fK _ (fK _ (fh _ _ hA))))
 have BX:Bk W0 (A+1) 115 #[I J 1,I J t,C u,C o,I J n,I J st]:=by rw[hW0];exact fK _ (fK _ (fK _ (fh _ _ gm)))
 rotate_left;have BX:Bk W0 (A+1) 115 #[I J 2,I J t,C u,C o,I J n,I J st]:=by rw[hW0];exact fK _ (fK _ (fK _ (fh _ _ gm)))
 rotate_left;have BX:Bk W0 (A+1) 115 #[I J 3,I J t,C u,C o,I J n,I J st]:=by rw[hW0];exact fK _ (fK _ (fK _ (fh _ _ gm)))
 rotate_left;have BX:Bk W0 (A+1) 115 #[I J 4,I J t,C u,C o,I J n,I J st]:=by rw[hW0];exact fK _ (fK _ (fK _ (fh _ _ gm)))
 rotate_left;have BX:Bk W0 (A+1) 115 #[I J 5,I J t,C u,C o,I J n,I J st]:=by rw[hW0];exact fK _ (fK _ (fK _ (fh _ _ gm)))
 rotate_left;have BX:Bk W0 (A+1) 115 #[I J 6,I J t,C u,C o,I J n,I J st]:=by rw[hW0];exact fK _ (fK _ (fK _ (fh _ _ gm)))
 rotate_left;have BX:Bk W0 (A+1) 115 #[I J 7,I J t,C u,C o,I J n,I J st]:=by rw[hW0];exact fK _ (fK _ (fK _ (fh _ _ gm)))
 rotate_left
 all_goals
  have BY:Bk W0 (A+2) 131 #[av,av,aw,aw,aw,aw]:=by rw[hW0];exact fK _ (fK _ (fh _ _ gm))
  have BP:Bk W0 (A+3) 117 #[C u,C o]:=by rw[hW0];exact fK _ (fh _ _ gm)
  have BD:Bk W0 (A+4) 112 #[av,av,av,av]:=by rw[hW0];exact fh _ _ gm
  have HB:=H (show Bl w W0 by rw[hW0];exact bl5 _ _ _ _ _ _);obtain⟨a0,a1,a2,a3,a4,a5⟩:=jg BA;obtain⟨x0,x1,x2,x3,x4,x5⟩:=jg BX;obtain⟨y0,y1,y2,y3,y4,y5⟩:=jg BY;obtain⟨p0,p1⟩:=ni BP;obtain⟨d0,d1,d2,d3⟩:=pw BD;obtain⟨HAw,SV⟩:=eN hA (show W0.heap.size=A+5 by rw[hW0,hA];simp);have hwA:w.heap.size<=A:=by rw[HAw.out];exact aB _
 have HS0:=H (show SB V w A [(A+1,115,#[I J 1,I J t,C u,C o,I J n,I J st]),(A+2,131,#[av,av,aw,aw,aw,aw]),(A+4,112,#[av,av,av,av])] s (Z Ao s.op.length co) (Z Au ul.length cu) (Z As s.sb.length cs) (Z At s.tb.length ct) ul W0 from
  ⟨hV.ca HB,hV.size,hwA,iw.of HB,BA,hr.bl HB,sm,kx⟩)
 have zf:=λW (h:Bl W0 W)=>Bk.fr (h.bl HS0.a) 2;have CO:=H (λW (hb:Bl W0 W)=>Oh s.op _ _ ⟨n,u,st,t⟩ W (HS0.r.ho.bl hb) hc hc2);unfold fl.v at CO;rotate_left;have HS0:=H (show SB V w A [(A+1,115,#[I J 2,I J t,C u,C o,I J n,I J st]),(A+2,131,#[av,av,aw,aw,aw,aw])] s (Z Ao s.op.length co) (Z Au ul.length cu) (Z As s.sb.length cs) (Z At s.tb.length ct) ul W0 from
  ⟨hV.ca HB,hV.size,hwA,iw.of HB,BA,hr.bl HB,sm,nY⟩)
 obtain⟨HBD,HL⟩:=eN BD hr.hl;have zf:=λW (h:Bl W0 W)=>Bk.fr (h.bl HS0.a) 2;have df:=λW j (h:Bl W0 W)=>Bk.fr (h.bl HBD) j;have CO:=H (λW (hb:Bl W0 W)=>Hi s.op _ _ n u st t x W (HS0.r.ho.bl hb) hx hxu om);unfold eP.v at CO;rotate_left;have HS0:=H (show SB V w A [(A+1,115,#[I J 3,I J t,C u,C o,I J n,I J st]),(A+2,131,#[av,av,aw,aw,aw,aw])] s (Z Ao s.op.length co) (Z Au ul.length cu) (Z As s.sb.length cs) (Z At s.tb.length ct) ul W0 from
  ⟨hV.ca HB,hV.size,hwA,iw.of HB,BA,hr.bl HB,sm,nY⟩)
 obtain⟨HBD,HL⟩:=eN BD hr.hl;have zf:=λW (h:Bl W0 W)=>Bk.fr (h.bl HS0.a) 2;have df:=λW j (h:Bl W0 W)=>Bk.fr (h.bl HBD) j;have CO:=H (λW (hb:Bl W0 W)=>LS s.op _ _ n u t x W (HS0.r.ho.bl hb) hx hxu om);unfold eP.v at CO;rotate_left;have HS0:=H (show SB V w A [(A+1,115,#[I J 4,I J t,C u,C o,I J n,I J st]),(A+2,131,#[av,av,aw,aw,aw,aw]),(A+4,112,#[av,av,av,av])] s (Z Ao s.op.length co) (Z Au ul.length cu) (Z As s.sb.length cs) (Z At s.tb.length ct) ul W0 from
  ⟨hV.ca HB,hV.size,hwA,iw.of HB,BA,hr.bl HB,sm,kx⟩)
 have zf:=λW (h:Bl W0 W)=>Bk.fr (h.bl HS0.a) 4;have CO:=H (λW (hb:Bl W0 W)=>Ll u o t s.sb _ _ W (HS0.r.hs.bl hb) hc om);unfold mj at CO;rotate_left;have HS0:=H (show SB V w A [(A+1,115,#[I J 5,I J t,C u,C o,I J n,I J st]),(A+2,131,#[av,av,aw,aw,aw,aw]),(A+4,112,#[av,av,av,av])] s (Z Ao s.op.length co) (Z Au ul.length cu) (Z As s.sb.length cs) (Z At s.tb.length ct) ul W0 from
  ⟨hV.ca HB,hV.size,hwA,iw.of HB,BA,hr.bl HB,sm,kx⟩)
 have zf:=λW (h:Bl W0 W)=>Bk.fr (h.bl HS0.a) 4;have CO:=H (λW (hb:Bl W0 W)=>Gr u o t s.sb _ _ W (HS0.r.hs.bl hb) hc om);unfold mj at CO;rotate_left;have HS0:=H (show SB V w A [(A+1,115,#[I J 6,I J t,C u,C o,I J n,I J st]),(A+2,131,#[av,av,aw,aw,aw,aw]),(A+4,112,#[av,av,av,av])] s (Z Ao s.op.length co) (Z Au ul.length cu) (Z As s.sb.length cs) (Z At s.tb.length ct) ul W0 from
  ⟨hV.ca HB,hV.size,hwA,iw.of HB,BA,hr.bl HB,sm,kx⟩)
 have zf:=λW (h:Bl W0 W)=>Bk.fr (h.bl HS0.a) 1;rotate_left;have HS0:=H (show SB V w A [(A+1,115,#[I J 7,I J t,C u,C o,I J n,I J st]),(A+2,131,#[av,av,aw,aw,aw,aw]),(A+4,112,#[av,av,av,av])] s (Z Ao s.op.length co) (Z Au ul.length cu) (Z As s.sb.length cs) (Z At s.tb.length ct) ul W0 from
  ⟨hV.ca HB,hV.size,hwA,iw.of HB,BA,hr.bl HB,sm,kx⟩)
 have zf:=λW (h:Bl W0 W)=>Bk.fr (h.bl HS0.a) 1;rotate_left
 all_goals
  clear hr;have hb0:=br W0
  go_enter func209,ntmps209
  go_upto_region 5 with fail
  rw[<-hW0,<-hA];clear hW0 hA
 focus
  go_upto_region 19 with(go_at_call 260;refine aaj (CO _ hb0) λv1 w1 hr1 hb1=>?_;obtain⟨A1,n1q,c1,rfl⟩:=hr1.fR)
  have h1:=(HS0.ca hb1).op (fa hr1 HS0.bl.size);generalize w1.setCell ⟨A,2,E⟩ (Z A1 n1q c1)=W1 at*
 rotate_left
 focus
  go_upto_region 19 with(go_at_call 261;refine aaj (CO _ hb0) λv1 w1 hr1 hb1=>?_;obtain⟨A1,n1q,c1,rfl⟩:=hr1.fR)
  have h1:=(HS0.ca hb1).op (fa hr1 HS0.bl.size);have hbw:=(HB.ca hb1).st (p:=⟨A,2,E⟩) hwA (Z A1 n1q c1);have hd:=Bk.fw (hb1.bl HBD) (HS0.ca hb1).a dc 2 (Z A1 n1q c1);generalize w1.setCell ⟨A,2,E⟩ (Z A1 n1q c1)=W1 at*;have h2:SB V w A _ _ _ _ _ _ _ ((((W1.setCell ⟨A+4,0,E⟩ (I J (x.stay t).a)).setCell ⟨A+4,1,E⟩ (I J (x.stay t).b)).setCell ⟨A+4,2,E⟩ (I J (x.stay t).n)).setCell ⟨A+4,3,E⟩ (I J (x.stay t).st)):=h1.oth hd om om sm hbw HL _ _ _ _;have hd2:=(((hd.set 0 (I J (x.stay t).a)).set 1 (I J (x.stay t).b)).set 2 (I J (x.stay t).n)).set 3 (I J (x.stay t).st);clear hd hbw;generalize (((W1.setCell ⟨A+4,0,E⟩ (I J (x.stay t).a)).setCell ⟨A+4,1,E⟩ (I J (x.stay t).b)).setCell ⟨A+4,2,E⟩ (I J (x.stay t).n)).setCell ⟨A+4,3,E⟩ (I J (x.stay t).st)=W2 at*;have h1:=h2;have d0:W2.cell? ⟨A+4,0,E⟩=G (I J (x.stay t).a):=Bk.ce hd2 0;have d1:W2.cell? ⟨A+4,1,E⟩=G (I J (x.stay t).b):=Bk.ce hd2 1;have d2:W2.cell? ⟨A+4,2,E⟩=G (I J (x.stay t).n):=Bk.ce hd2 2;have d3:W2.cell? ⟨A+4,3,E⟩=G (I J (x.stay t).st):=Bk.ce hd2 3
 rotate_left
 focus
  go_upto_region 19 with(go_at_call 229;refine aaj (CO _ hb0) λv1 w1 hr1 hb1=>?_;obtain⟨A1,n1q,c1,rfl⟩:=hr1.fR)
  have h1:=(HS0.ca hb1).op (fa hr1 HS0.bl.size);have hbw:=(HB.ca hb1).st (p:=⟨A,2,E⟩) hwA (Z A1 n1q c1);have hd:=Bk.fw (hb1.bl HBD) (HS0.ca hb1).a dc 2 (Z A1 n1q c1);generalize w1.setCell ⟨A,2,E⟩ (Z A1 n1q c1)=W1 at*;have h2:SB V w A _ _ _ _ _ _ _ ((((W1.setCell ⟨A+4,0,E⟩ (I J (x.stay t).a)).setCell ⟨A+4,1,E⟩ (I J (x.stay t).b)).setCell ⟨A+4,2,E⟩ (I J (x.stay t).n)).setCell ⟨A+4,3,E⟩ (I J (x.stay t).st)):=h1.oth hd om om sm hbw HL _ _ _ _;have hd2:=(((hd.set 0 (I J (x.stay t).a)).set 1 (I J (x.stay t).b)).set 2 (I J (x.stay t).n)).set 3 (I J (x.stay t).st);clear hd hbw;generalize (((W1.setCell ⟨A+4,0,E⟩ (I J (x.stay t).a)).setCell ⟨A+4,1,E⟩ (I J (x.stay t).b)).setCell ⟨A+4,2,E⟩ (I J (x.stay t).n)).setCell ⟨A+4,3,E⟩ (I J (x.stay t).st)=W2 at*;have h1:=h2;have d0:W2.cell? ⟨A+4,0,E⟩=G (I J (x.stay t).a):=Bk.ce hd2 0;have d1:W2.cell? ⟨A+4,1,E⟩=G (I J (x.stay t).b):=Bk.ce hd2 1;have d2:W2.cell? ⟨A+4,2,E⟩=G (I J (x.stay t).n):=Bk.ce hd2 2;have d3:W2.cell? ⟨A+4,3,E⟩=G (I J (x.stay t).st):=Bk.ce hd2 3
 rotate_left
 focus
  go_upto_region 19 with(go_at_call 262;refine aaj (CO _ hb0) λv1 w1 hr1 hb1=>?_;obtain⟨A1,n1q,c1,rfl⟩:=hr1.fR)
  have h1:=(HS0.ca hb1).sb (fa hr1 HS0.bl.size);generalize w1.setCell ⟨A,4,E⟩ (Z A1 n1q c1)=W1 at*
 rotate_left
 focus
  go_upto_region 19 with(go_at_call 263;refine aaj (CO _ hb0) λv1 w1 hr1 hb1=>?_;obtain⟨A1,n1q,c1,rfl⟩:=hr1.fR)
  have h1:=(HS0.ca hb1).sb (fa hr1 HS0.bl.size);generalize w1.setCell ⟨A,4,E⟩ (Z A1 n1q c1)=W1 at*
 rotate_left
 focus
  go_upto_region 19 with fail
  have h1:=HS0.fb (max s.fb n);generalize W0.setCell ⟨A,1,E⟩ (I J (max s.fb n))=W1 at*
 rotate_left
 focus
  have CO:=H (Hb s _ u t V W0 ⟨_,_,_,_,ul,D,HS0.r⟩ hn ht HS0.bl);unfold jd at CO;have ff:=λj=>Bk.fr HS0.a j
  go_upto_region 19 with(go_at_call 264;refine CO.mono ?_;rintro e w1 ⟨v1,rfl,⟨vo1,vu1,vs1,vt1,ul1,rfl,hr1⟩,hb1,hf1⟩;unfold jd;obtain⟨⟨A1,q1,c1,rfl⟩,⟨A2,q2,c2,rfl⟩,⟨A3,q3,c3,rfl⟩,A4,q4,c4,rfl⟩:=hr1.nr;have kA:=hf1 _ _ _ HS0.a dc dc;have g0:=kA.ce 0;have g1:=kA.ce 1;have g2:=kA.ce 2;have g3:=kA.ce 3;have g4:=kA.ce 4;have g5:=kA.ce 5;have gf:=λj=>Bk.fr kA j;clear kA)
  have h1:=HS0.re hf1 hb1 hr1;unfold kS at h1;generalize (((((w1.setCell ⟨A,0,E⟩ _).setCell ⟨A,1,E⟩ _).setCell ⟨A,2,E⟩ _).setCell ⟨A,3,E⟩ _).setCell ⟨A,4,E⟩ _).setCell ⟨A,5,E⟩ _=W1 at*
 rotate_left
 all_goals
  have q0:=h1.a.ce 0;have q1:=h1.a.ce 1;have q2:=h1.a.ce 2;have q3:=h1.a.ce 3;have q4:=h1.a.ce 4;have q5:=h1.a.ce 5;have xu:=Bk.ce (h1.k _ (.head _)) 2
 have d0:=Bk.ce (h1.k _ (.tail _ (.tail _ (.head _)))) 0;have d1:=Bk.ce (h1.k _ (.tail _ (.tail _ (.head _)))) 1;have d2:=Bk.ce (h1.k _ (.tail _ (.tail _ (.head _)))) 2;have d3:=Bk.ce (h1.k _ (.tail _ (.tail _ (.head _)))) 3;have AD:=H (mA ({s with op:=oC s.op ⟨n,u,st,t⟩}:St) _ V.heap.size u ⟨0,0,0,0⟩ V W1 ⟨_,_,_,_,_,D,h1.r⟩ ⟨(by show(oC s.op ⟨n,u,st,t⟩).length<=1000;rw[Es];omega),jj,lS,jt,λy hy=> gw⟩ hu h1.bl (aB _) h1.bl.size);rotate_left;have AD:=H (mA ({s with op:=yP s.op n st t}:St) _ V.heap.size u (x.stay t) V W2 ⟨_,_,_,_,_,D,h1.r⟩ ⟨(by show(yP s.op n st t).length<=1000;rw[Jn];omega),jj,lS,jt,λy hy=> gw⟩ hu h1.bl (aB _) h1.bl.size);rotate_left;have AD:=H (mA ({s with op:=tS s.op n}:St) _ V.heap.size u (x.stay t) V W2 ⟨_,_,_,_,_,D,h1.r⟩ ⟨(by show(tS s.op n).length<=1000;have:=It s.op n;omega),jj,lS,jt,λy hy=> gw⟩ hu h1.bl (aB _) h1.bl.size);rotate_left;have d0:=Bk.ce (h1.k _ (.tail _ (.tail _ (.head _)))) 0;have d1:=Bk.ce (h1.k _ (.tail _ (.tail _ (.head _)))) 1;have d2:=Bk.ce (h1.k _ (.tail _ (.tail _ (.head _)))) 2;have d3:=Bk.ce (h1.k _ (.tail _ (.tail _ (.head _)))) 3;have AD:=H (mA ({s with sb:=qe bf s.sb ⟨u,o,t,FE⟩}:St) _ V.heap.size u ⟨0,0,0,0⟩ V W1 ⟨_,_,_,_,_,D,h1.r⟩ ⟨(by show s.op.length<=1000;omega),jj,(by show(qe bf s.sb ⟨u,o,t,FE⟩).length<=1000;rw[Eu];omega),jt,λy hy=> gw⟩ hu h1.bl (aB _) h1.bl.size);rotate_left;have d0:=Bk.ce (h1.k _ (.tail _ (.tail _ (.head _)))) 0;have d1:=Bk.ce (h1.k _ (.tail _ (.tail _ (.head _)))) 1;have d2:=Bk.ce (h1.k _ (.tail _ (.tail _ (.head _)))) 2;have d3:=Bk.ce (h1.k _ (.tail _ (.tail _ (.head _)))) 3;have AD:=H (mA ({s with sb:=yV s.sb u o t}:St) _ V.heap.size u ⟨0,0,0,0⟩ V W1 ⟨_,_,_,_,_,D,h1.r⟩ ⟨(by show s.op.length<=1000;omega),jj,(by show(yV s.sb u o t).length<=1000;have:=Ba s.sb u o t;omega),jt,λy hy=> gw⟩ hu h1.bl (aB _) h1.bl.size);rotate_left;have d0:=Bk.ce (h1.k _ (.tail _ (.tail _ (.head _)))) 0;have d1:=Bk.ce (h1.k _ (.tail _ (.tail _ (.head _)))) 1;have d2:=Bk.ce (h1.k _ (.tail _ (.tail _ (.head _)))) 2;have d3:=Bk.ce (h1.k _ (.tail _ (.tail _ (.head _)))) 3;have AD:=H (mA ({s with fb:=max s.fb n}:St) _ V.heap.size u ⟨0,0,0,0⟩ V W1 ⟨_,_,_,_,_,D,h1.r⟩ ⟨(by show s.op.length<=1000;omega),jj,lS,jt,λy hy=> gw⟩ hu h1.bl (aB _) h1.bl.size);rotate_left;have d0:=Bk.ce (h1.k _ (.tail _ (.tail _ (.head _)))) 0;have d1:=Bk.ce (h1.k _ (.tail _ (.tail _ (.head _)))) 1;have d2:=Bk.ce (h1.k _ (.tail _ (.tail _ (.head _)))) 2;have d3:=Bk.ce (h1.k _ (.tail _ (.tail _ (.head _)))) 3;have AD:=H (mA (Lu s u t) _ V.heap.size u ⟨0,0,0,0⟩ V W1 ⟨_,_,_,_,_,D,h1.r⟩ ⟨nV,nV,nV,(by show(sJ bf (s.tb.filter λx=>!(decide (x.u=u))) ⟨u,t⟩).length<=1000;rw[yo];have:=bp (λx:gb=>!(decide (x.u=u))) s.tb;omega),λy hy=>(by have:=hn.nl y (aa9.1 hy).1;omega)⟩ (hu.filter _) h1.bl (aB _) h1.bl.size);rotate_left
 all_goals
  unfold jd eP.v at AD;have H1:=H h1
 rotate_left;rotate_left;rotate_left;rotate_left;rotate_left;rotate_left;rotate_left
 all_goals
  go_wp2_with (go_at_call 230;refine AD.mono ?_;rintro e w9 ⟨v9,rfl,⟨vo9,vu9,vs9,vt9,ul9,rfl,hr9⟩,hb9,hf9⟩;unfold jd;obtain⟨⟨B1,m1,e1,rfl⟩,⟨B2,m2,e2,rfl⟩,⟨B3,m3,e3,rfl⟩,B4,m4,e4,rfl⟩:=hr9.nr;have kA:=hf9 _ _ _ (H1.k _ (.tail _ (.head _))) (show 131≠282 by decide) (show 131≠244 by decide);obtain⟨g0,g1,g2,g3,g4,g5⟩:=rX kA;have gf:=λj=>Bk.fr kA j;have KA:=H kA;clear kA)
  have hVz:=hV.size;have hY:YS V (A+2) 131 6 w9:=⟨hb9,om,_,KA,D⟩;exact aa1 (eM (p:=4) (a:=5) D _ _ _ _ _ _ _ D (hY.kO _ _ _ _ _ _) underlying131 D iy) D ⟨_,D,⟨_,_,_,_,_,D,hr9.kO KA _ _ _ _ _ _⟩,hb9.kO om _ _ _ _ _ _,(H1.fr.ca hf9).kO om _ _ _ _ _ _⟩
abbrev TT (_:World):Prop:=True
theorem alt(hT:TT W)(hS:Bl V W)(c:Array Value)(t:TypeId):Bk (W.alloc (.cells c t)) W.heap.size t c/\V.heap.size<=W.heap.size/\TT (W.alloc (.cells c t))/\Bl V (W.alloc (.cells c t)):=
 ⟨eL _ _,hS.size,trivial,hS.al _⟩
theorem TT.ca(_:TT w)(_:Bl w w'):TT w':=trivial
theorem TT.al(_:TT w)(o):TT (w.alloc o):=trivial
theorem TT.st(_:TT w){p}{v}:TT (w.setCell p v):=trivial
theorem wL {α:Type}{p q:α->Bool}(l:List α)(h:∀ x,p x=q x):l.filter p=l.filter q:=by rw[show p=q from funext h]
theorem Qr (s s')(v)(e)(V w:World)(h:iW w V.heap.size v s)(hn:pY 60 s)(hu:Ord il.u bf s.us)(ht:Ord gb.u bf s.tb)(hV:Bl V w)(hd:kM bf s e=G s'):
 Calls prog 209 #[v,e.v] w (Vr V w {s' with now:=s.now}):=by
 obtain⟨k,t,u,o,n,st⟩:=e;unfold kM at hd;simp only at hd
 split at hd
 ·rename_i hk;subst hk
  split at hd
  ·cases hd
  ·rename_i hc;injection hd with hd
   subst hd;exact tm.1 s v t n st u o V w h hn hu hV (by cases hq:kC s.op n with | none=>rfl | some x=>exact absurd (aG (by rw[hq];rfl)) hc) (by have:=λhh=>hc (aI hh);omega)
 split at hd
 ·rename_i hk
  split at hd
  ·cases hd
  ·rename_i x hx
   split at hd
   ·rename_i hxu;injection hd with hd
    subst hd;rcases hk with hk | hk
    ·subst hk;exact tm.2.1 s v t n st u o V w h hn hu hV x hx hxu
    ·subst hk;exact tm.2.2.1 s v t n st u o V w h hn hu hV x hx hxu
   ·cases hd
 split at hd
 ·rename_i hk;subst hk
  split at hd
  ·cases hd
  ·rename_i hc;injection hd with hd
   subst hd;exact tm.2.2.2.1 s v t n st u o V w h hn hu hV (by simpa using hc)
 split at hd
 ·rename_i hk;subst hk
  split at hd
  ·rename_i hc;injection hd with hd
   subst hd;exact tm.2.2.2.2.1 s v t n st u o V w h hn hu hV hc
  ·cases hd
 split at hd
 ·rename_i hk;subst hk;injection hd with hd
  subst hd;exact tm.2.2.2.2.2.1 s v t n st u o V w h hn hu hV
 split at hd
 ·rename_i hk;subst hk;injection hd with hd
  subst hd;have k:=tm.2.2.2.2.2.2 s v t n st u o V w h hn hu ht hV;unfold Lu at k;rw[wL s.op (q:=λx=>decide (x.u≠u)) (λx=>by simp),wL s.us (q:=λx=>decide (x.u≠u)) (λx=>by simp),wL s.tb (q:=λx=>decide (x.u≠u)) (λx=>by simp),wL s.sb (q:=λx=>decide (x.w≠u/\x.u≠u)) (λx=>by simp[B8])] at k;exact k
 ·cases hd
theorem oD.iD{s}{ul}(h:oD w b vo vu vs vt s ul)(hb:b'<=b):oD w b' vo vu vs vt s ul:=
 ⟨fa h.ho hb,fa h.hu hb,⟨h.hl.1,λj h1 h2=>⟨(h.hl.2 j h1 h2).1,fa (h.hl.2 j h1 h2).2 hb⟩⟩,fa h.hs hb,fa h.ht hb⟩
def ApP (s':St)(w:World)(e:Ending)(w':World):Prop:=∃ v',e= .returned (.tuple #[v',av])/\iW w' w.heap.size v' s'/\Bl w w'
theorem Ak (s s')(v)(b:Nat)(e:Ev)(w)(h:iW w b v s)(hn:pY 60 s)(hu:Ord il.u bf s.us)(ht:Ord gb.u bf s.tb)(us:e.user.size<=1000000)(os:e.other.size<=1000000)(hs:ft bf fL s e=G s'):
 Calls prog 131 #[v,e.v] w (ApP s' w):=by
 unfold ft at hs
 split at hs
 case isFalse=>cases hs
 rename_i hk;obtain⟨hr,hlt⟩:=hk;have TP:s'.now=e.time:=Fc hs;have RT:=λW=>pE e W us os (.inl hr);rw[hr] at RT;replace RT:=H RT;obtain⟨DW,CL⟩:=eN (λ(VC W1:World) (v1:Value) (h1:iW W1 VC.heap.size v1 s) (hb:Bl VC W1) W (hw:Bl W1 W)=>Qr s s' v1 e VC W (h1.bl hw) hn hu ht (hb.ca hw) hs) (λW (hb:Bl w W)=>pt s v b W (h.bl hb) ⟨aaQ,by have:=hn.nu;omega,iM,aaR,λy hy=>gw⟩);obtain⟨vo,vu,vs,vt,ul,rfl,hr0⟩:=h;have HNOW:=H TP;obtain⟨k,t,u,o,n,st⟩:=e;unfold jd at CL ⊢;unfold Ev.v Ev.cells at RT DW ⊢;simp only at RT DW HNOW hlt ⊢;obtain⟨⟨Ao,no,co,rfl⟩,⟨Au,nu,cu,rfl⟩,⟨As,ns,cs,rfl⟩,At,nt,ct,rfl⟩:=hr0.nr;obtain⟨A,W0,hA,hW0,BA,BX,BY,HB,HAw,SV⟩:=qh w #[I J s.now,I J s.fb,Z Ao no co,Z Au nu cu,Z As ns cs,Z At nt ct] 131 #[I J k,I J t,C u,C o,I J n,I J st] 115 #[av,av,aw,aw,aw,aw] 131;obtain⟨a0,a1,a2,a3,a4,a5⟩:=jg BA;obtain⟨x0,x1,x2,x3,x4,x5⟩:=jg BX;obtain⟨y0,y1,y2,y3,y4,y5⟩:=jg BY;replace CL:=H (λW (hb:Bl W0 W)=>CL W (HB.ca hb));obtain⟨HX,HY⟩:=eN BX BY;clear TP hs hr;have hb0:=br W0;have i1:¬t<s.now:=om;clear hlt
 go_enter func131,ntmps131
 go_upto_region 1 with fail
 rw[<-hW0,<-hA];clear hW0 hA
 go_upto_region 5 with(go_at_call 188;refine qx (RT _) λw0 hb9=>?_)
 refine jI (T:=TT) (S:=Bl W0) [8] trivial (Bl.dr hb9) λhT0 hS0=>?_
 try dsimp only at hT0 hS0
 refine td 0 ?_;refine td 2 ?_;refine ti 1 7 (λKQ hK=>?_) λKQ hK=>?_
 focus
  go_simp
  (go_at_call 123;refine aaj (CL _ hS0) λv1 w1 hs1 hb1=>?_)
  have hSC:=hS0;have DO:=H (DW _ _ _ hs1 hb1)
  try (replace hG:=hb1.bl hG)
  obtain⟨vo1,vu1,vs1,vt1,ul1,rfl,hr1⟩:=hs1;obtain⟨⟨A1,q1,c1,rfl⟩,⟨A2,q2,c2,rfl⟩,⟨A3,q3,c3,rfl⟩,A4,q4,c4,rfl⟩:=hr1.nr;unfold jd;unfold jd at DO;have hT1:=hT0.ca hb1;have hS1:=hS0.ca hb1;refine kq hK ?_;refine ti 3 7 (λKQ hK=>?_) λKQ hK=>?_
  focus
   go_simp
   (go_at_call 209;refine(DO _ abg).mono ?_;rintro e w3 ⟨v3,rfl,hs3,hb3,hf3⟩)
   try (replace hG:=hf3 _ _ _ hG dc dc;obtain⟨g0,g1,g2,g3,g4,g5⟩:=rX hG;have gf:=λj=>Bk.fr hG j)
   obtain⟨vo3,vu3,vs3,vt3,ul3,rfl,hr3⟩:=hs3;obtain⟨⟨B1,m1,e1,rfl⟩,⟨B2,m2,e2,rfl⟩,⟨B3,m3,e3,rfl⟩,B4,m4,e4,rfl⟩:=hr3.nr;unfold jd;dsimp only;have hT2:TT w3:=trivial;have hS2:=hSC.ca hb3;refine kq hK ?_;refine aaa [4,5,6] ?_;refine eK 7 λKQ hK=>?_;go_simp;obtain⟨hG,hGs,hT3,hS3⟩:=alt hT2 hS2 #[av,av,aw,aw,aw,aw] 131
   try (replace hG:=zW hG;replace hGs:=zV hGs)
   obtain⟨g0,g1,g2,g3,g4,g5⟩:=jF hG;have gf:=λj=>Bk.fr hG j;refine kq hK ?_;refine eK 8 λKQ hK=>?_;go_simp;refine fJ (hK _ _) trivial (eI (j:=8) kr kr) (λhT4=>?_)
   try dsimp only at hT4
   try simp only[fI]
   refine tz 9 hT4 (eI (j:=8) kr kr) ?_;refine iU ?_;have hL:=hS3
  rotate_left 1
  focus
   go_simp;obtain⟨hG,hGs,hT2,hS2⟩:=alt hT1 hS1 #[av,av,aw,aw,aw,aw] 131
   try (replace hG:=zW hG;replace hGs:=zV hGs)
   obtain⟨g0,g1,g2,g3,g4,g5⟩:=jF hG;have gf:=λj=>Bk.fr hG j;refine kq hK ?_;refine eK 3 λKQ hK=>?_;go_simp
   (go_at_call 209;refine(DO _ abg).mono ?_;rintro e w3 ⟨v3,rfl,hs3,hb3,hf3⟩)
   try (replace hG:=hf3 _ _ _ hG dc dc;obtain⟨g0,g1,g2,g3,g4,g5⟩:=rX hG;have gf:=λj=>Bk.fr hG j)
   obtain⟨vo3,vu3,vs3,vt3,ul3,rfl,hr3⟩:=hs3;obtain⟨⟨B1,m1,e1,rfl⟩,⟨B2,m2,e2,rfl⟩,⟨B3,m3,e3,rfl⟩,B4,m4,e4,rfl⟩:=hr3.nr;unfold jd;dsimp only;have hT3:TT w3:=trivial;have hS3:=hSC.ca hb3;refine kq hK ?_;refine aaa [4,5,6] ?_;refine eK 8 λKQ hK=>?_;go_simp;refine fJ (hK _ _) trivial (eI (j:=8) kr kr) (λhT4=>?_)
   try dsimp only at hT4
   try simp only[fI]
   refine tz 9 hT4 (eI (j:=8) kr kr) ?_;refine iU ?_;have hL:=hS3
  rotate_left 1
 rotate_left 2
 focus
  go_simp;obtain⟨hG,hGs,hT1,hS1⟩:=alt hT0 hS0 #[av,av,aw,aw,aw,aw] 131
  try (replace hG:=zW hG;replace hGs:=zV hGs)
  obtain⟨g0,g1,g2,g3,g4,g5⟩:=jF hG;have gf:=λj=>Bk.fr hG j;refine kq hK ?_;refine eK 1 λKQ hK=>?_;go_simp
  (go_at_call 123;refine aaj (CL _ hS1) λv1 w1 hs1 hb1=>?_)
  have hSC:=hS1;have DO:=H (DW _ _ _ hs1 hb1)
  try (replace hG:=hb1.bl hG)
  obtain⟨vo1,vu1,vs1,vt1,ul1,rfl,hr1⟩:=hs1;obtain⟨⟨A1,q1,c1,rfl⟩,⟨A2,q2,c2,rfl⟩,⟨A3,q3,c3,rfl⟩,A4,q4,c4,rfl⟩:=hr1.nr;unfold jd;unfold jd at DO;have hT2:=hT1.ca hb1;have hS2:=hS1.ca hb1;refine kq hK ?_;refine eK 3 λKQ hK=>?_;go_simp
  (go_at_call 209;refine(DO _ abg).mono ?_;rintro e w3 ⟨v3,rfl,hs3,hb3,hf3⟩)
  try (replace hG:=hf3 _ _ _ hG dc dc;obtain⟨g0,g1,g2,g3,g4,g5⟩:=rX hG;have gf:=λj=>Bk.fr hG j)
  obtain⟨vo3,vu3,vs3,vt3,ul3,rfl,hr3⟩:=hs3;obtain⟨⟨B1,m1,e1,rfl⟩,⟨B2,m2,e2,rfl⟩,⟨B3,m3,e3,rfl⟩,B4,m4,e4,rfl⟩:=hr3.nr;unfold jd;dsimp only;have hT3:TT w3:=trivial;have hS3:=hSC.ca hb3;refine kq hK ?_;refine aaa [4,5,6] ?_;refine eK 8 λKQ hK=>?_;go_simp;refine fJ (hK _ _) trivial (eI (j:=8) kr kr) (λhT4=>?_)
  try dsimp only at hT4
  try simp only[fI]
  refine tz 9 hT4 (eI (j:=8) kr kr) ?_;refine iU ?_;have hL:=hS3
 rotate_left 1
 all_goals
  have hz:=HB.size;have hGz:=hSC.size
  first
   | (have q:Bk w3 _ 131 _:=hG
      have hL6:=hL.kO hGs (I J s.now) (I J s'.fb) (Z B1 m1 e1) (Z B2 m2 e2) (Z B3 m3 e3) (Z B4 m4 e4);have r6:=(hr3.kO hG (I J s.now) (I J s'.fb) (Z B1 m1 e1) (Z B2 m2 e2) (Z B3 m3 e3) (Z B4 m4 e4)).iD (aH hz hGz);have k6:Bk _ _ 131 #[I J s.now,I J s'.fb,Z B1 m1 e1,Z B2 m2 e2,Z B3 m3 e3,Z B4 m4 e4]:=(((((Bk.set hG 0 (I J s.now)).set 1 (I J s'.fb)).set 2 (Z B1 m1 e1)).set 3 (Z B2 m2 e2)).set 4 (Z B3 m3 e3)).set 5 (Z B4 m4 e4);unfold kS at r6 hL6;clear q;clear hL hG;generalize ((((((_:World).setCell ⟨_,0,E⟩ (I J s.now)).setCell ⟨_,1,E⟩ (I J s'.fb)).setCell ⟨_,2,E⟩ (Z B1 m1 e1)).setCell ⟨_,3,E⟩ (Z B2 m2 e2)).setCell ⟨_,4,E⟩ (Z B3 m3 e3)).setCell ⟨_,5,E⟩ (Z B4 m4 e4)=W6 at*)
   | (have hL6:=(hSC.ca hb3).al (.cells #[I J s.now,I J s'.fb,Z B1 m1 e1,Z B2 m2 e2,Z B3 m3 e3,Z B4 m4 e4] 131)
      have k6:Bk _ _ 131 #[I J s.now,I J s'.fb,Z B1 m1 e1,Z B2 m2 e2,Z B3 m3 e3,Z B4 m4 e4]:=eL w3 (.cells #[I J s.now,I J s'.fb,Z B1 m1 e1,Z B2 m2 e2,Z B3 m3 e3,Z B4 m4 e4] 131);have r6:=(hr3.bl (gl w3 (.cells #[I J s.now,I J s'.fb,Z B1 m1 e1,Z B2 m2 e2,Z B3 m3 e3,Z B4 m4 e4] 131))).iD (aH hz hGz);clear hL hG;generalize (w3.alloc (.cells #[I J s.now,I J s'.fb,Z B1 m1 e1,Z B2 m2 e2,Z B3 m3 e3,Z B4 m4 e4] 131))=W6 at*)
  have g0:=k6.ce 0;have gf:=λj=>Bk.fr k6 j;have x1:=x1 W6 hL6;obtain⟨H6,K6,HL⟩:=gi r6 k6 hL6;clear hL6
  go_upto_region 9 with fail
  have r7:=H6.fw (u:=I J t) K6 0;have k7:=Bk.set K6 0 (I J t);have hL7:=HL.st (p:=⟨_,0,E⟩) hGs (I J t);generalize W6.setCell ⟨_,0,E⟩ (I J t)=W7 at*;have g0:=k7.ce 0;have g1:=k7.ce 1;have g2:=k7.ce 2;have g3:=k7.ce 3;have g4:=k7.ce 4;have g5:=k7.ce 5;have kY:=hL7.bl HY;obtain⟨e0,e1,e2,e3,e4,e5⟩:=rX kY;have ef:=λj=>Bk.fr kY j;obtain⟨H7,KY,HL7⟩:=gi r7 kY (HB.ca hL7);clear hL7 kY
  go_wp2_with fail
  have hA1:=HAw.out;have hY:YS w (A+2) 131 6 W7:=⟨HL7,om,_,KY,D⟩;have HE:s'= {s' with now:=t}:=by rw[<-HNOW.out]
  exact aa1 (eM (p:=4) (a:=5) D _ _ _ _ _ _ _ D (hY.kO _ _ _ _ _ _) underlying131 D iy) D ⟨_,D,⟨_,_,_,_,_,by rw[HE];rfl,by rw[HE];exact⟨(H7.kO KY _ _ _ _ _ _).ho,(H7.kO KY _ _ _ _ _ _).hu,(H7.kO KY _ _ _ _ _ _).hl,(H7.kO KY _ _ _ _ _ _).hs,(H7.kO KY _ _ _ _ _ _).ht⟩⟩,HL7.kO om _ _ _ _ _ _⟩
end Tp
namespace Tp
open Go Go.RowKit Go.Lib CrcM FrM SgM
open Ds.DkM (bf gj ij gQ mY iZ Fl gG mV)
open Ds (Dk eF lg mg jY Iv Bd ptr Kp fP Bf He rZ px lE)
def ZT (x:St)(vo vu vs vt:Value)(g:Sg)(ev:Int)(p:Nat)(nt na:Int):Array Value:=#[I J x.now,I J x.fb,vo,vu,vs,vt,I U (g.k.toNat:Nat),I J g.n,I J ev,ptr p,I J nt,I J na]
structure SA (w:World)(B s p b:Nat)(S:Dk)(g:Sg)(x:St)(ev nt na:Int)(vo vu vs vt:Value)(ul:List UC):Prop where
 fo:Bk w s 139 (ZT x vo vu vs vt g ev p nt na)
 dk:eF w p b S
 st:oD w B vo vu vs vt x ul
 np:s≠p
 nb:s≠b
 hB:B<=w.heap.size
section
variable {w w':World}{B s p b:Nat}{S:Dk}{g:Sg}{x:St}{ev nt na:Int}{vo vu vs vt:Value}{ul:List UC}
theorem SA.bl (h:SA w B s p b S g x ev nt na vo vu vs vt ul)(hb:Bl w w'):SA w' B s p b S g x ev nt na vo vu vs vt ul:=
 ⟨hb.bl h.fo,h.dk.fp hb,h.st.bl hb,h.np,h.nb,aH h.hB hb.size⟩
theorem KF.qz{v}(h:KF F w w')(hr:w.ownsRow c t sz v n xs)(hF:∀ k∈F,∀ cs,w.heap[k]?≠G (.cells cs t)):w'.ownsRow c t sz v n xs:=by
 refine⟨hr.1,?_⟩;rcases hr.2 with k | ⟨g,cap,cur,hv,hg,hh,r⟩
 ·exact .inl k
 ·exact .inr ⟨g,cap,cur,hv,hg,h.hp hh (λhf=>hF g hf _ hh),r⟩
theorem SA.ne (h:SA w B s p b S g x ev nt na vo vu vs vt ul){cs}(hX:Bk w X t cs)(h1:t≠139)(h2:t≠109):X≠s/\X≠p/\X≠b:=by
 have hX':w.heap[X]?=G (.cells cs t):=hX;refine⟨λe=>?_,λe=>?_,λe=>?_⟩
 ·have hb:w.heap[s]?=G (.cells _ _):=h.fo;rw[<-e,hX'] at hb;injection hb with hb
  injection hb with _ hb
  exact h1 hb
 ·have hb:w.heap[p]?=G (.cells _ _ (0,0)):=h.dk.fo;rw[<-e,hX'] at hb;injection hb with hb
  injection hb with _ hb
  exact h2 hb
 ·obtain⟨es,clock,hb,_⟩:=h.dk.own;rw[<-e,hX'] at hb;cases hb
theorem SA.no (h:SA w B s p b S g x ev nt na vo vu vs vt ul)(hF:∀ k∈F,k∈[s,p,b])(h1:t≠139)(h2:t≠109):∀ k∈F,∀ cs,w.heap[k]?≠G (.cells cs t):=λk hk cs e=>by
 obtain⟨a1,a2,a3⟩:=h.ne (X:=k) (t:=t) (cs:=cs) e h1 h2;have:=hF k hk;simp only[aE,aO,aQ] at this;omega
theorem SA.GV (h:SA w B s p b S g x ev nt na vo vu vs vt ul)(hF:∀ k∈F,k∈[s,p,b])(hk:KF F w w'){x'}{ul'}(hr:oD w c vo' vu' vs' vt' x' ul'):oD w' c vo' vu' vs' vt' x' ul':=
 ⟨hk.qz hr.ho (h.no hF dc dc),hk.qz hr.hu (h.no hF dc dc),⟨hr.hl.1,λj h1 h2=>⟨(hr.hl.2 j h1 h2).1,hk.qz (hr.hl.2 j h1 h2).2 (h.no hF dc dc)⟩⟩,hk.qz hr.hs (h.no hF dc dc),hk.qz hr.ht (h.no hF dc dc)⟩
theorem SA.YY {S'}(h:SA w B s p b S g x ev nt na vo vu vs vt ul)(hk:KF [p,b] w w')(hd:eF w' p b S'):SA w' B s p b S' g x ev nt na vo vu vs vt ul:=
 ⟨hk.hp h.fo (by simp[h.np,h.nb]),hd,h.GV sm hk h.st,h.np,h.nb,aH h.hB hk.size⟩
theorem xv (h:Bk w s 139 (ZT x vo vu vs vt g ev p nt na)):w.cell? ⟨s,0,E⟩=G (I J x.now)/\w.cell? ⟨s,1,E⟩=G (I J x.fb)/\w.cell? ⟨s,2,E⟩=G vo/\w.cell? ⟨s,3,E⟩=G vu/\w.cell? ⟨s,4,E⟩=G vs/\w.cell? ⟨s,5,E⟩=G vt/\w.cell? ⟨s,6,E⟩=G (I U (g.k.toNat:Nat))/\w.cell? ⟨s,7,E⟩=G (I J g.n)/\w.cell? ⟨s,8,E⟩=G (I J ev)/\w.cell? ⟨s,9,E⟩=G (ptr p)/\w.cell? ⟨s,10,E⟩=G (I J nt)/\w.cell? ⟨s,11,E⟩=G (I J na):=
 ⟨h.ce 0,h.ce 1,h.ce 2,h.ce 3,h.ce 4,h.ce 5,h.ce 6,h.ce 7,h.ce 8,h.ce 9,h.ce 10,h.ce 11⟩
end
theorem Own.fr{p:Nat}{S}(h:eF w p b S)(np:s≠p)(nb:s≠b)(i:Nat)(v):eF (w.setCell ⟨s,i,E⟩ v) p b S:=
 ⟨h.fo.fw (λe=>np e.symm) v,h.own.fw (λe=>nb e.symm) v⟩
theorem mO{x}{ul}{cs}(h:oD w B vo vu vs vt x ul)(hs:Bk w s 139 cs)(i:Nat)(v):oD (w.setCell ⟨s,i,E⟩ v) B vo vu vs vt x ul:=
 ⟨h.ho.fw hs dc i,h.hu.fw hs dc i,h.hl.fw hs dc i,h.hs.fw hs dc i,h.ht.fw hs dc i⟩
theorem SA.Yn{p:Nat}{S}{g}{x}{ul}(h:SA w B s p b S g x ev nt na vo vu vs vt ul)(n:Int):SA (w.setCell ⟨s,11,E⟩ (I J n)) B s p b S g x ev nt n vo vu vs vt ul:=
 ⟨Bk.set h.fo 11 _,Own.fr h.dk h.np h.nb 11 _,mO h.st h.fo 11 _,h.np,h.nb,by simpa using h.hB⟩
theorem SA.Ym{p:Nat}{S}{g}{x}{ul}(h:SA w B s p b S g x ev nt na vo vu vs vt ul)(n:Int):SA ((w.setCell ⟨s,6,E⟩ (I U 115)).setCell ⟨s,7,E⟩ (I J n)) B s p b S ⟨115,n⟩ x ev nt na vo vu vs vt ul:=
 ⟨Bk.set (Bk.set h.fo 6 _) 7 _,Own.fr (Own.fr h.dk h.np h.nb 6 _) h.np h.nb 7 _,mO (mO h.st h.fo 6 _) (Bk.set h.fo 6 _) 7 _,h.np,h.nb,by simpa using h.hB⟩
theorem KF.all{cs}(h:Bk V A t cs)(hA:A∉F)(i:Nat){v}(hv:cs[i]?=G v)(W)(hk:KF F V W):W.cell? ⟨A,i,E⟩=G v:=(Bk.ce (hk.hp h hA) i).trans hv
theorem IG {g}(h:SgM.sw g=Q):SgM.In64 g.n:=by
 obtain⟨_,h2,h3⟩:=jJ.1 h;unfold SgM.In64;omega
theorem kQ {g}:(SgM.fS g).size<=Go.maxLen:=by
 unfold Go.maxLen;rw[eZ,nL];unfold Ec
 split
 ·simp[gP]
 ·simp
theorem yv{p:Nat}{S}{g}{x}{ul}(h:SA w B s p b S g x ev nt na vo vu vs vt ul)(hg:SgM.In64 g.n):
 aai 132 #[ptr s] w (C (SgM.fS g)):=by
 obtain⟨_,_,_,_,_,_,c6,c7,_,_,_,_⟩:=xv h.fo;have NM:=H (show aai 100 #[.agg #[I U (g.k.toNat:Nat),I J g.n]] w (C (SgM.fS g)) from SgM.ji g w hg);clear h hg
 go_enter func132,ntmps132
 go_wp2_with (go_at_call 100;refine qx NM λw1 hb1=>?_)
 go_ret;exact⟨D,hb1⟩
theorem nj{p:Nat}{S}(h:eF w p b S):Calls prog 56 #[ptr p] w λe w'=>e= .returned (.bool S.down)/\w=w':=by
 obtain⟨_,_,_,_,_,_,_,c6⟩:=h.cells;clear h
 go_enter func56,ntmps56
 exact gN
theorem xq{p:Nat}{S}{g}{x}{ul}(h:SA w B s p b S g x ev nt na vo vu vs vt ul){u:Nat}(hl:LD N ld g u S)(hN:N<=1000000):
 Calls prog 89 #[ptr s] w λe w'=>e= .returned av/\SA w' B s p b (mg S (SgM.fS g)).1 g x ev nt nt vo vu vs vt ul/\KF [s,p,b] w w':=by
 have FI:=H (λW (hW:Bl w W)=>(yv (h.bl hW) (IG hl.ok)).mono (λe w' (k:_/\_)=>(⟨k.1,hW.ca k.2⟩:_/\Bl w w')));have SY:=λW (hW:Bl w W)=>Ds.GJ.1 (h.dk.fp hW) (hl.iv.bd om) (n:=SgM.fS g) kQ;unfold Ds.jE at SY;rw[(Tz hl).1] at SY;replace SY:=H SY;have HS:=H h;have c9:∀ W,KF [p,b] w W->W.cell? ⟨s,9,E⟩=G (ptr p):=KF.all (F:=[p,b]) h.fo (by simp[h.np,h.nb]) 9 D;have c10:∀ W,KF [p,b] w W->W.cell? ⟨s,10,E⟩=G (I J nt):=KF.all (F:=[p,b]) h.fo (by simp[h.np,h.nb]) 10 D;have c11:∀ W,KF [p,b] w W->W.cell? ⟨s,11,E⟩=G (I J na):=KF.all (F:=[p,b]) h.fo (by simp[h.np,h.nb]) 11 D;have cf:=λW (hW:KF [p,b] w W) j=>Bk.fr (hW.hp h.fo (by simp[h.np,h.nb])) j;have hk0:KF [p,b] w w:=KF.eH;clear h hl
 go_enter func89,ntmps89
 go_upto_region 1 with fail
 refine jI (T:=KF [p,b] w) (S:=KF [p,b] w) [] (KF.dr KF.eH) (KF.dr KF.eH) λhT0 hS0=>?_
 try dsimp only at hT0 hS0
 refine aaa [0,1,2] ?_;refine td 3 ?_;refine qd 4 ?_;refine eK 5 λKQ hK=>?_;go_simp
 (go_at_call 132;refine qx (FI _ (Bl.dr Bl.eH)) λw1 hb1=>?_)
 have hT1:=KF.of (F:=[p,b]) hb1;have hS1:=hT1;refine kq hK ?_;refine eK 6 λKQ hK=>?_;go_simp
 (go_at_call 136;refine(SY _ hb1).mono ?_;rintro e w2 ⟨rfl,hd2,hk2⟩)
 have hT2:=hS1.ca (KF.kp hk2 sm sm);have hS2:=hT2;refine kq hK ?_;refine qd 7 ?_;refine iU ?_;have hL:=hS2;have hk2':KF [p,b] w w2:=hL;have HK:=H hk2'
 go_wp2_with fail
 go_ret;exact⟨D,(HS.YY HK hd2).Yn _,(HK.mono sm).st sm _⟩
theorem Ny{p:Nat}{S}{g}{x}{ul}(h:SA w B s p b S g x ev nt na vo vu vs vt ul){u:Nat}(hl:LD N ld g u S)(hN:N<=1000000)(hn:g.n<=1000000):
 Calls prog 133 #[ptr s] w λe w'=>e= .returned av/\SA w' B s p b (jY (mg S (SgM.fS g)).1 (SgM.fS ⟨115,g.n+1⟩)).1 ⟨115,g.n+1⟩ x ev nt nt vo vu vs vt ul/\KF [s,p,b] w w':=by
 have hg0:=(jJ.1 hl.ok).2.1;have ho:SgM.sw ⟨115,g.n+1⟩=Q:=jJ.2 ⟨(show SgM.Kr 115=Q by decide),eJ,eJ⟩;have SY:=H (xq h hl hN);obtain⟨_,hl1⟩:=Tz hl;have hc:=(WX hl1 ho (show g.n<g.n+1 by omega)).1;have e1:IntKind.i64.wrap (g.n+1)=g.n+1:=by rw[jh om]
 obtain⟨S1,hS0⟩:=fe ((mg S (SgM.fS g)).1);rw[<-hS0] at SY hl1 hc ⊢;obtain⟨HL1,HC,HO⟩:=gi hl1 hc ho;clear h hl hc ho hS0
 go_enter func133,ntmps133
 go_upto_region 4 with(go_at_call 89;refine SY.mono ?_;rintro e w1 ⟨rfl,hs1,hk1⟩)
 obtain⟨HS,HK1⟩:=eN hs1 hk1;have d7:w1.cell? ⟨s,7,E⟩=G (I J g.n):=hs1.fo.ce 7
 go_upto_region 5 with fail
 obtain⟨V2,X,hV2,hX,BX,LV2⟩:=iC w1 #[I U 115,I J (g.n+1)] 133;rw[<-hV2,<-hX];clear hV2;replace hX:=H hX;obtain⟨x0,x1⟩:=ni BX;have HS2:=H (HS.bl LV2);have hXp:X∉[p,b]:=by have h1:=(aa2.1 HS.dk.fo).1;have h2:=HS.dk.own.lt;simp only[aE,aO,aQ];rw[hX.out];omega
 have c9:∀ W,KF [p,b] V2 W->W.cell? ⟨s,9,E⟩=G (ptr p):=KF.all (F:=[p,b]) HS2.fo (by simp[HS2.out.np,HS2.out.nb]) 9 D;have k0:∀ W,KF [p,b] V2 W->W.cell? ⟨X,0,E⟩=G (I U 115):=KF.all (F:=[p,b]) BX hXp 0 D;have k1:∀ W,KF [p,b] V2 W->W.cell? ⟨X,1,E⟩=G (I J (g.n+1)):=KF.all (F:=[p,b]) BX hXp 1 D;have NM:=H (λW (hW:Bl V2 W)=>(show Calls prog 100 #[.agg #[I U 115,I J (g.n+1)]] W λe w'=>e= .returned (C (SgM.fS ⟨115,g.n+1⟩))/\Bl V2 w' from(SgM.ji ⟨115,g.n+1⟩ W (IG HO)).mono λe w' (k:_/\_)=>⟨k.1,hW.ca k.2⟩));have CR:=λW (hW:Bl V2 W)=>Ds.ox (HS2.dk.fp hW) (HL1.iv.bd om) (n:=SgM.fS ⟨115,g.n+1⟩) kQ;unfold Ds.jE at CR;rw[HC.out] at CR;replace CR:=H CR;obtain⟨HBX,HXp⟩:=eN BX hXp;clear hXp;refine jI (T:=KF [p,b] V2) (S:=KF [p,b] V2) [] (KF.dr KF.eH) (KF.dr KF.eH) λhT1 hS1=>?_
 try dsimp only at hT1 hS1
 refine aaa [0,1,2] ?_;refine td 3 ?_;refine td 4 ?_;refine eK 5 λKQ hK=>?_;go_simp
 (go_at_call 100;refine qx (NM _ (Bl.dr Bl.eH)) λw3 hb3=>?_)
 have hT0:=KF.of (F:=[p,b]) hb3;have hS0:=hT0;refine kq hK ?_;refine eK 6 λKQ hK=>?_;go_simp
 (go_at_call 101;refine(CR _ hb3).mono ?_;rintro e w4 ⟨rfl,hd4,hk4⟩)
 have hT2:=hS0.ca (KF.kp hk4 sm sm);have hS2:=hT2;refine kq hK ?_;refine qd 7 ?_;refine iU ?_;have hL:=hS2;have HK2:=H (show KF [p,b] V2 w4 from hL);have HS4:=H (HS2.YY HK2 hd4);obtain⟨z0,z1⟩:=Zc (HK2.hp HBX HXp);have z6:w4.cell? ⟨s,6,E⟩=G (I U (g.k.toNat:Nat)):=Bk.ce HS4.fo 6;have z7:w4.cell? ⟨s,7,E⟩=G (I J g.n):=Bk.ce HS4.fo 7;have zf:=λj=>Bk.fr HS4.fo j;clear hL
 go_wp2_with fail
 go_ret;exact⟨D,HS4.Ym _,(((HK1.bl LV2).ca (HK2.mono sm)).st sm _).st sm _⟩
end Tp
namespace Tp
open Go Go.RowKit Go.Lib Go.Sort
open Ds.DkM (bf gj ij gQ mY iZ Fl gG mV)
open Ds (Dk eF lg mg jY Iv Bd ptr Kp fP Bf He rZ px lE)
theorem Gs (s)(v)(b:Nat)(w)(h:iW w b v s)(hn:pY 60 s)(ho:s.op=[]):
 Calls prog 165 #[v] w λe w'=>∃ v',e= .returned v'/\iW w' w.heap.size v' s/\Bl w w':=by
 have CL:=H (λW (hb:Bl w W)=>pt s v b W (h.bl hb) ⟨aaQ,by have:=hn.nu;omega,iM,aaR,λy hy=>gw⟩);obtain⟨vo,vu,vs,vt,ul,rfl,hr0⟩:=h;unfold jd at CL ⊢;obtain⟨⟨Ao,no,co,rfl⟩,⟨Au,nu,cu,rfl⟩,⟨As,ns,cs,rfl⟩,At,nt,ct,rfl⟩:=hr0.nr;obtain⟨A,W0,hA,hW0,BA,BY,HB,HAw,SV⟩:=lj w #[I J s.now,I J s.fb,Z Ao no co,Z Au nu cu,Z As ns cs,Z At nt ct] 131 #[av,av,aw,aw,aw,aw] 131;obtain⟨a0,a1,a2,a3,a4,a5⟩:=jg BA;obtain⟨y0,y1,y2,y3,y4,y5⟩:=jg BY;obtain⟨HA,HY,HO⟩:=gi BA BY ho;clear ho;have hb0:=br W0;have ff:=λW (h:Bl W0 W) j=>Bk.fr (h.bl HA) j
 go_enter func165,ntmps165
 go_upto_region 1 with fail
 rw[<-hW0,<-hA];clear hW0 hA
 go_upto_region 2 with(go_at_call 123;refine(CL _ HB).mono ?_;rintro e w1 ⟨v1,rfl,⟨vo1,vu1,vs1,vt1,ul1,rfl,hr1⟩,hb1⟩;unfold jd;obtain⟨A1,c1,rfl,_,_⟩:=hr1.ho.form;obtain⟨A2,q2,c2,rfl⟩:=hr1.hu.fR;obtain⟨A3,q3,c3,rfl⟩:=hr1.hs.fR;obtain⟨A4,q4,c4,rfl⟩:=hr1.ht.fR)
 have hz:=HB.size;have hA0:=HAw.out;have hL:=(HB.ca hb1).kO (Y:=A) om (I J s.now) (I J s.fb) (Z A1 s.op.length c1) (Z A2 q2 c2) (Z A3 q3 c3) (Z A4 q4 c4);have r1:=(hr1.kO (hb1.bl HA) (I J s.now) (I J s.fb) (Z A1 s.op.length c1) (Z A2 q2 c2) (Z A3 q3 c3) (Z A4 q4 c4)).iD hz;have k1:Bk _ A 131 #[I J s.now,I J s.fb,Z A1 s.op.length c1,Z A2 q2 c2,Z A3 q3 c3,Z A4 q4 c4]:=(((((Bk.set (hb1.bl HA) 0 (I J s.now)).set 1 (I J s.fb)).set 2 (Z A1 s.op.length c1)).set 3 (Z A2 q2 c2)).set 4 (Z A3 q3 c3)).set 5 (Z A4 q4 c4);have kf:=λ(W:World) (i:Nat) (v:Value) (k:Bk W (A+1) 131 #[av,av,aw,aw,aw,aw])=>show Bk (W.setCell ⟨A,i,E⟩ v) (A+1) 131 _ from(aa0 W ⟨A,i,E⟩ v (A+1) iJ).trans k;have y1:=kf _ 5 (Z A4 q4 c4) (kf _ 4 (Z A3 q3 c3) (kf _ 3 (Z A2 q2 c2) (kf _ 2 (Z A1 s.op.length c1) (kf _ 1 (I J s.fb) (kf _ 0 (I J s.now) (hb1.bl HY))))));unfold kS at hL r1;generalize (((((w1.setCell ⟨A,0,E⟩ (I J s.now)).setCell ⟨A,1,E⟩ (I J s.fb)).setCell ⟨A,2,E⟩ (Z A1 s.op.length c1)).setCell ⟨A,3,E⟩ (Z A2 q2 c2)).setCell ⟨A,4,E⟩ (Z A3 q3 c3)).setCell ⟨A,5,E⟩ (Z A4 q4 c4)=W1 at*;rw[HO.out] at k1;have g2:W1.cell? ⟨A,2,E⟩=G (Z A1 0 c1):=k1.ce 2;have gf:=λj=>Bk.fr k1 j;obtain⟨K1,R1,HL,HY1⟩:=kB k1 r1 hL y1;replace hA0:=H hA0;clear hL
 go_wp2_with fail
 go_loopw [13] (λi wr=>i= I J 0/\wr=W1) (λ_ _=>0)
 case atStart=>exact⟨D,D⟩
 case round=>
  obtain⟨rfl,rfl⟩:=hrel
  go_upto_region 9 with fail
  have r2:=R1.fw (u:=Z E 0 0) K1 2;have k2:Bk _ A 131 #[I J s.now,I J s.fb,aw,Z A2 q2 c2,Z A3 q3 c3,Z A4 q4 c4]:=Bk.set K1 2 aw;have hL2:=HL.st (p:=⟨A,2,E⟩) (by rw[hA0.out];exact aB _) aw;have kY:Bk _ (A+1) 131 _:=(aa0 wr ⟨A,2,E⟩ aw (A+1) iJ).trans HY1;generalize wr.setCell ⟨A,2,E⟩ aw=W2 at*;have g0:=k2.ce 0;have g1:=k2.ce 1;have g2:=k2.ce 2;have g3:=k2.ce 3;have g4:=k2.ce 4;have g5:=k2.ce 5;obtain⟨e0,e1,e2,e3,e4,e5⟩:=rX kY;have ef:=λj=>Bk.fr kY j;obtain⟨R2,KY,HL2⟩:=gi r2 kY hL2;clear hL2 kY
  go_wp2_with fail
  have hA1:=hA0.out;have hY:YS w (A+1) 131 6 W2:=⟨HL2,om,_,KY,D⟩;have r3:=R2.kO KY (I J s.now) (I J s.fb) aw (Z A2 q2 c2) (Z A3 q3 c3) (Z A4 q4 c4);exact aa1 (eS (p:=2) D _ _ _ _ _ _ _ D (hY.kO _ _ _ _ _ _) underlying131 D iy) D ⟨_,D,⟨_,_,_,_,_,D,⟨by rw[HO.out];exact Rw.nil,r3.hu,r3.hl,r3.hs,r3.ht⟩⟩,HL2.kO om _ _ _ _ _ _⟩
end Tp
namespace Tp
open Go Go.RowKit Go.Lib Go.Sort
open FrM CrcM
open Ds.DkM (bf gj ij gQ mY iZ Fl gG mV)
open Ds (Dk eF lg mg jY Iv Bd ptr Kp fP Bf He rZ px lE)
theorem jC {e}(h:fL e=Q):e.user.size<=12/\e.other.size<=12:=by
 have key:∀ x:ay,gD x=Q->x.size<=12:=λx hx=>by
  unfold gD at hx;simp only[aM,aN] at hx;exact hx.2.2
 unfold fL at h
 split at h
 ·exact abh
 split at h
 ·exact abh
 split at h
 ·exact abh
 split at h
 ·simp only[aM,aN] at h;exact⟨key _ h.1.2.1,key _ h.1.2.2⟩
 split at h
 ·simp only[aM,aN] at h;omega
 ·cases h
theorem iX {e}(h:fL e=Q):∀ x∈eD e.time::lI e,x.size<=100:=by
 have hn:=jC h;have d0:=fg e.time;have d1:=fg e.n;have d2:=fg e.st;intro x hx;rcases aE.1 hx with rfl | hx
 ·exact d0
 exact rN
theorem ny {e}(h:fL e=Q):(ph e).size<=404:=by
 have hs:=iX h;unfold ph gR;rw[aA (gV h).1,iR];have hl:(eD e.time::lI e).length<=4:=by have:=(pQ e).2;simp;omega
 refine aH (rP 100 _ (λx hx=>?_)) ?_
 ·rw[bI] at hx;obtain⟨y,hy,rfl⟩:=hx;have:=hs y hy;rw[eZ] at this;exact this
 ·rw[bg];omega
theorem Qi {e}(h:fL e=Q):let L:=eD e.time::lI e
 (e.kind=1∨e.kind=2∨e.kind=3->e.v= .agg #[I J e.kind,I J (e8 L 0),C (iS L 1),ax,I J (e8 L 2),I J (e8 L 3)])
 /\(e.kind=4∨e.kind=5->e.v= .agg #[I J e.kind,I J (e8 L 0),C (iS L 1),C (iS L 2),av,av])
 /\(e.kind=6->e.v= .agg #[I J e.kind,I J (e8 L 0),ax,ax,I J (e8 L 1),av])
 /\(e.kind=7->e.v= .agg #[I J e.kind,I J (e8 L 0),C (iS L 1),ax,av,av]):=by
 intro L;have hc:=(gV h).2
 change ow e.kind L=e at hc
 clear_value L
 generalize hk:e.kind=k at hc ⊢;refine⟨λh1=>?_,λh1=>?_,λh1=>?_,λh1=>?_⟩
 ·unfold ow at hc;rw[aA h1] at hc;rw[<-hc];rfl
 ·unfold ow at hc;rw[az om,aA h1] at hc;rw[<-hc];rfl
 ·unfold ow at hc;rw[az om,az om,aA h1] at hc;rw[<-hc];rfl
 ·unfold ow at hc;rw[az om,az om,az om,aA h1] at hc;rw[<-hc];rfl
theorem xY {v:Value}{R:Ending->World->Prop}(j:Int)(hj:j=(k:Int))(h:Calls prog 183 #[v,I J k] W R):
 Calls prog 183 #[v,I J j] W R:=by rw[hj];exact h
theorem Mw {v:Value}{R:Ending->World->Prop}(j:Int)(hj:j=(k:Int))(h:Calls prog 184 #[v,I J k] W R):
 Calls prog 184 #[v,I J j] W R:=by rw[hj];exact h
theorem BO:(prog.info? 115).map (·.size)=G 6:=kr
theorem UZ (e)(w)(hg:Gb w)(h:fL e=Q):
 aai 116 #[jM e] w (.tuple #[e.v,.bool Q]):=by
 have hn:=jC h;have hkk:=kD h;have hi:=Tv hkk.1 hkk.2;have hsm:=iX h;obtain⟨FRM,SP,HG⟩:=gi (λW (hb:Bl w W)=>sF e W (hg.below hb (aB _)) om om (.inl h)) (λW (hb:Bl w W)=>oW (ph e) W (hg.below hb (aB _)) (by have:=ny h;omega)) hg;obtain⟨EA,EB,EC,ED⟩:=Qi h;rw[Jd h] at SP;have hf:jM e= .agg #[I U (Bt e.kind),C (ph e)]:=by unfold jM;rw[aA h]
 rw[hf,h] at FRM;rw[hf];clear hf hn hg;generalize eD e.time::lI e=L at SP EA EB EC ED hsm;generalize ph e=s at FRM SP ⊢;generalize Bt e.kind=c at FRM hi ⊢;have IX:=H (λW=>Tryz.strings_IndexByte ⟨lets.toArray⟩ c W);have hi':Lib.indexByte lets (UInt8.ofNat c.toNat)=e.kind - 1:=om;obtain⟨NM,WD⟩:=eN (λ(k:Nat) (j:Int) (hj:j=(k:Int)) (hk:k<=100) W v (hb:Bl w W) (hs:eO W v L)=>xY j hj (xZ L v k W (HG.below hb (aB _)) hs (λx hx=>by have:=hsm x hx;omega) hk)) (λ(k:Nat) (j:Int) (hj:j=(k:Int)) (hk:k<=100) W v (hs:eO W v L)=>Mw j hj (JF L v k W hs hk));clear hi hsm h;have hk:e.kind=1∨e.kind=2∨e.kind=3∨e.kind=4∨e.kind=5∨e.kind=6∨e.kind=7:=om;have HK:=H hk;clear hk hkk;generalize hkv:e.kind=k at EA EB EC ED hi' HK;clear hkv;generalize e.v=ev at EA EB EC ED FRM ⊢;have IX':∀ W:World,Calls prog 167 #[C ⟨#[111,99,120,103,114,104,101]⟩,I U c] W λe w'=>e= .returned (I J (k - 1))/\w'=W:=by
  intro W;have:=IX W
  change Calls prog 167 #[C ⟨#[111,99,120,103,114,104,101]⟩,I U c] W λe w'=>e= .returned (I J (Lib.indexByte lets (UInt8.ofNat c.toNat)))/\w'=W at this
  rw[hi'] at this;exact this
 clear hi';replace IX':=H IX';replace EA:=H EA;replace EB:=H EB;replace EC:=H EC;replace ED:=H ED;obtain⟨A,V,hA,hV,BA,BX,HB,HAw,SV⟩:=lj w #[I U c,C s] 217 #[av,av,ax,ax,av,av] 115;obtain⟨a0,a1⟩:=ni BA;obtain⟨x0,x1,x2,x3,x4,x5⟩:=jg BX;have HX:=H BX;have hb0:=br V
 go_enter func116,ntmps116
 go_upto_region 1 with fail
 rw[<-hV,<-hA];clear hV hA
 go_upto_region 2 with(go_at_call 77;refine aaj (SP _ HB) λv w1 hs hb1=>?_)
 obtain⟨HBB,HS⟩:=eN (HB.ca hb1) hs;clear hs;have hw:wrap64 k=k:=w64 (by have:=HK.out;omega)
 go_upto_region 3 with(first | (go_at_call 167;refine QS (IX' _) ?_) | (go_at_call 183;refine qx (NM 0 0 rfl dc _ _ HBB HS) λw3 hb3=>?_))
 have hb13:=Bl.ca hb1 hb3;clear hw;obtain⟨HS3,HB3⟩:=eN (HS.below hb3) (HB.ca hb13);obtain⟨V4,an,hV4,hG,BG,LV4⟩:=iC w3 #[I J k,I J (e8 L 0),ax,ax,av,av] 115;rw[<-hV4,<-hG];clear hV4;replace hG:=H hG;obtain⟨g0,g1,g2,g3,g4,g5⟩:=jg BG;obtain⟨HG4,HB4,HS4⟩:=gi BG (HB3.ca LV4) (HS3.below LV4);have gf:=λW (hb:Bl V4 W) j=>Bk.fr (hb.bl BG) j;have hb4:=br V4;obtain⟨hGw,LV,hGv⟩:=gi (show w.heap.size<=an by have:=HB3.size;have:=hG.out;omega) (Bl.ca hb13 LV4) (show V.heap.size<=an by have:=Bl.ca hb13 Bl.eH;have:=this.size;have:=hG.out;omega);clear hG;rcases HK.out with rfl | rfl | rfl | rfl | rfl | rfl | rfl
 focus
  have hev:=EA om
  go_upto_region 15 with(first | (go_at_call 184;refine QS (WD 1 1 rfl dc _ _ HS4) ?_) | (go_at_call 183;with_reducible refine qx (NM.out 2 2 rfl dc _ _ HB4.out HS4.out) λw6 hb6=>?_) | (go_at_call 183;with_reducible refine qx (NM.out 3 3 rfl dc _ _ (HB4.out.ca hb6) (HS4.out.below hb6)) λw7 hb7=>?_;have hb67:=Bl.ca hb6 hb7;clear hb6 hb7))
  have k5:=Bk.set (Bk.set (Bk.set (Bl.bl hb67 HG4) 2 (C (iS L 1))) 4 (I J (e8 L 2))) 5 (I J (e8 L 3));have l5:=Bl.st (Bl.st (Bl.st (HB4.ca hb67) (p:=⟨an,2,E⟩) hGw (C (iS L 1))) (p:=⟨an,4,E⟩) hGw (I J (e8 L 2))) (p:=⟨an,5,E⟩) hGw (I J (e8 L 3));have v5:=Bl.st (Bl.st (Bl.st (LV.ca hb67) (p:=⟨an,2,E⟩) hGv (C (iS L 1))) (p:=⟨an,4,E⟩) hGv (I J (e8 L 2))) (p:=⟨an,5,E⟩) hGv (I J (e8 L 3));generalize (((w7.setCell ⟨an,2,E⟩ (C (iS L 1))).setCell ⟨an,4,E⟩ (I J (e8 L 2))).setCell ⟨an,5,E⟩ (I J (e8 L 3)))=W5 at k5 l5 v5 ⊢
 rotate_left
 focus
  have hev:=EA om
  go_upto_region 15 with(first | (go_at_call 184;refine QS (WD 1 1 rfl dc _ _ HS4) ?_) | (go_at_call 183;with_reducible refine qx (NM.out 2 2 rfl dc _ _ HB4.out HS4.out) λw6 hb6=>?_) | (go_at_call 183;with_reducible refine qx (NM.out 3 3 rfl dc _ _ (HB4.out.ca hb6) (HS4.out.below hb6)) λw7 hb7=>?_;have hb67:=Bl.ca hb6 hb7;clear hb6 hb7))
  have k5:=Bk.set (Bk.set (Bk.set (Bl.bl hb67 HG4) 2 (C (iS L 1))) 4 (I J (e8 L 2))) 5 (I J (e8 L 3));have l5:=Bl.st (Bl.st (Bl.st (HB4.ca hb67) (p:=⟨an,2,E⟩) hGw (C (iS L 1))) (p:=⟨an,4,E⟩) hGw (I J (e8 L 2))) (p:=⟨an,5,E⟩) hGw (I J (e8 L 3));have v5:=Bl.st (Bl.st (Bl.st (LV.ca hb67) (p:=⟨an,2,E⟩) hGv (C (iS L 1))) (p:=⟨an,4,E⟩) hGv (I J (e8 L 2))) (p:=⟨an,5,E⟩) hGv (I J (e8 L 3));generalize (((w7.setCell ⟨an,2,E⟩ (C (iS L 1))).setCell ⟨an,4,E⟩ (I J (e8 L 2))).setCell ⟨an,5,E⟩ (I J (e8 L 3)))=W5 at k5 l5 v5 ⊢
 rotate_left
 focus
  have hev:=EA om
  go_upto_region 15 with(first | (go_at_call 184;refine QS (WD 1 1 rfl dc _ _ HS4) ?_) | (go_at_call 183;with_reducible refine qx (NM.out 2 2 rfl dc _ _ HB4.out HS4.out) λw6 hb6=>?_) | (go_at_call 183;with_reducible refine qx (NM.out 3 3 rfl dc _ _ (HB4.out.ca hb6) (HS4.out.below hb6)) λw7 hb7=>?_;have hb67:=Bl.ca hb6 hb7;clear hb6 hb7))
  have k5:=Bk.set (Bk.set (Bk.set (Bl.bl hb67 HG4) 2 (C (iS L 1))) 4 (I J (e8 L 2))) 5 (I J (e8 L 3));have l5:=Bl.st (Bl.st (Bl.st (HB4.ca hb67) (p:=⟨an,2,E⟩) hGw (C (iS L 1))) (p:=⟨an,4,E⟩) hGw (I J (e8 L 2))) (p:=⟨an,5,E⟩) hGw (I J (e8 L 3));have v5:=Bl.st (Bl.st (Bl.st (LV.ca hb67) (p:=⟨an,2,E⟩) hGv (C (iS L 1))) (p:=⟨an,4,E⟩) hGv (I J (e8 L 2))) (p:=⟨an,5,E⟩) hGv (I J (e8 L 3));generalize (((w7.setCell ⟨an,2,E⟩ (C (iS L 1))).setCell ⟨an,4,E⟩ (I J (e8 L 2))).setCell ⟨an,5,E⟩ (I J (e8 L 3)))=W5 at k5 l5 v5 ⊢
 rotate_left
 focus
  have hev:=EB om
  go_upto_region 15 with(first | (go_at_call 184;with_reducible refine QS (WD.out 1 1 rfl dc _ _ HS4.out) ?_) | (go_at_call 184;with_reducible refine QS (WD.out 2 2 rfl dc _ _ HS4.out) ?_))
  have k5:=Bk.set (Bk.set (Bl.bl Bl.eH HG4) 2 (C (iS L 1))) 3 (C (iS L 2));have l5:=Bl.st (Bl.st (HB4.ca Bl.eH) (p:=⟨an,2,E⟩) hGw (C (iS L 1))) (p:=⟨an,3,E⟩) hGw (C (iS L 2));have v5:=Bl.st (Bl.st (LV.ca Bl.eH) (p:=⟨an,2,E⟩) hGv (C (iS L 1))) (p:=⟨an,3,E⟩) hGv (C (iS L 2));generalize ((V4.setCell ⟨an,2,E⟩ (C (iS L 1))).setCell ⟨an,3,E⟩ (C (iS L 2)))=W5 at k5 l5 v5 ⊢
 rotate_left
 focus
  have hev:=EB om
  go_upto_region 15 with(first | (go_at_call 184;with_reducible refine QS (WD.out 1 1 rfl dc _ _ HS4.out) ?_) | (go_at_call 184;with_reducible refine QS (WD.out 2 2 rfl dc _ _ HS4.out) ?_))
  have k5:=Bk.set (Bk.set (Bl.bl Bl.eH HG4) 2 (C (iS L 1))) 3 (C (iS L 2));have l5:=Bl.st (Bl.st (HB4.ca Bl.eH) (p:=⟨an,2,E⟩) hGw (C (iS L 1))) (p:=⟨an,3,E⟩) hGw (C (iS L 2));have v5:=Bl.st (Bl.st (LV.ca Bl.eH) (p:=⟨an,2,E⟩) hGv (C (iS L 1))) (p:=⟨an,3,E⟩) hGv (C (iS L 2));generalize ((V4.setCell ⟨an,2,E⟩ (C (iS L 1))).setCell ⟨an,3,E⟩ (C (iS L 2)))=W5 at k5 l5 v5 ⊢
 rotate_left
 focus
  have hev:=EC om
  go_upto_region 15 with(go_at_call 183;refine qx (NM 1 1 rfl dc _ _ HB4 HS4) λw6 hb67=>?_)
  have k5:=Bk.set (Bl.bl hb67 HG4) 4 (I J (e8 L 1));have l5:=Bl.st (HB4.ca hb67) (p:=⟨an,4,E⟩) hGw (I J (e8 L 1));have v5:=Bl.st (LV.ca hb67) (p:=⟨an,4,E⟩) hGv (I J (e8 L 1));generalize (w6.setCell ⟨an,4,E⟩ (I J (e8 L 1)))=W5 at k5 l5 v5 ⊢
 rotate_left
 focus
  have hev:=ED om
  go_upto_region 15 with(go_at_call 184;refine QS (WD 1 1 rfl dc _ _ HS4) ?_)
  have k5:=Bk.set (Bl.bl Bl.eH HG4) 2 (C (iS L 1));have l5:=Bl.st (HB4.ca Bl.eH) (p:=⟨an,2,E⟩) hGw (C (iS L 1));have v5:=Bl.st (LV.ca Bl.eH) (p:=⟨an,2,E⟩) hGv (C (iS L 1));generalize (V4.setCell ⟨an,2,E⟩ (C (iS L 1)))=W5 at k5 l5 v5 ⊢
 rotate_left
 all_goals
  rw[hev] at FRM;have g0:=k5.ce 0;have g1:=k5.ce 1;have g2:=k5.ce 2;have g3:=k5.ce 3;have g4:=k5.ce 4;have g5:=k5.ce 5
  go_upto_region 16 with(go_at_call 185;refine qx (FRM _ l5) λw8 hb8=>?_)
  obtain⟨V9,Y,hV9,hY,BY,LV9⟩:=iC w8 #[I U c,C s] 217;rw[<-hV9,<-hY];clear hV9;replace hY:=H hY;obtain⟨y0,y1⟩:=ni BY;have hb58:=hb8.trans (Below.mono LV9 hb8.size);have k9:=Bl.bl hb58 k5;obtain⟨g0,g1,g2,g3,g4,g5⟩:=rX k9;have v9:=Bl.ca v5 hb58;have l9:=H (Bl.ca l5 hb58);obtain⟨e0,e1⟩:=xV a0 a1 V9 v9;have hb9:=br V9;have hX9:=H (v9.bl HX)
  go_upto_region 18 with fail
  obtain⟨z0,z1,z2,z3,z4,z5⟩:=rX hX9;have zf:=λj=>Bk.fr hX9 j
  go_wp2_with fail
  have hA0:=HAw.out;have hY:YS w (A+1) 115 6 V9:=⟨l9,om,_,hX9,D⟩;rw[hev];exact aa1 (eM (p:=2) (a:=3) D _ _ _ _ _ _ _ D (hY.kO _ _ _ _ _ _) underlying115 D BO) D ⟨D,l9.kO om _ _ _ _ _ _⟩
end Tp
namespace SgM
open Go Go.RowKit CrcM FrM
open Ds.DkM (bf gj ij gQ mY iZ Fl gG mV)
open Ds (Dk eF lg mg jY Iv Bd ptr Kp fP Bf He rZ px lE)
theorem Ep{u:Nat}{bs}(h:Lib.IsBuilder T ai B u bs w)(hk:∀ k,B<=k->k<w.heap.size->w'.heap[k]?=w.heap[k]?):Lib.IsBuilder T ai B u bs w':=by
 have key:∀ p,Lib.BuilderAt T ai B u p bs w->Lib.BuilderAt T ai B u p bs w':=by
  rintro p ⟨hB,v,hb,hown,hne⟩;have hlt:∀ {g o},w.heap[g]?=G o->g<w.heap.size:=λh=>(aa2.1 h).1;refine⟨hB,v,(hk u hB (hlt hb)).trans hb,⟨hown.1,?_⟩,hne⟩;rcases hown.2 with h2 | ⟨g,cap,cur,h1,h2,h3,h4⟩
  ·exact aG h2
  ·exact aI ⟨g,cap,cur,h1,h2,(hk g h2 (hlt h3)).trans h3,h4⟩
 exact h.elim (λx=>aG (key _ x)) (λx=>aI (key _ x))
theorem Pf{u p:Nat}{bs}(h:Lib.IsBuilder T ai B u bs w)(hk:Kp p b w w')(hp:p<B)(hb:b<B):Lib.IsBuilder T ai B u bs w':=
 Ep h λk hB hlt=>hk.block k hlt om om
theorem sy{u:Nat}{bs}(h:Lib.IsBuilder T ai B u bs w)(hk:Below w.heap.size w w'):Lib.IsBuilder T ai B u bs w':=
 Ep h λk _ hlt=>hk.block k hlt
theorem yj {p:Nat}(h:Kp p b w0 w)(hb:Below B w w')(hB:w0.heap.size<=B)(_hs:B<=w.heap.size):Kp p b w0 w':=
 ⟨hb.os.trans h.os,hb.tape.trans h.tape,hb.output.trans h.output,aH h.size hb.size,λk hk h1 h2=>(hb.block k om).trans (h.block k hk h1 h2)⟩
def CJ (S:Dk)(n:ay):Nat:=if S.down=Q then 50 else if(gG S.L n).isSome then 0 else 51
def CI (S:Dk)(n:ay):ay:=match gG S.L n with | none=>lE | some f=>f.s++f.l
def MC (S:Dk)(n:ay):Nat:=if CJ S n=0 then max 1 (((CI S n).size+63) / 64) else 0
def nC (S:Dk)(n:ay)(p b:Nat)(w:World)(e:Ending)(w':World):Prop:=
 e= .returned (.tuple #[C (if CJ S n=0 then CI S n else lE),I J (CJ S n:Nat)])/\eF w' p b {S with reads:=S.reads+MC S n}/\Kp p b w w'
theorem Wi {S}{n}(h:CJ S n≠0):Bf S n 0=(lE,CJ S n):=by
 unfold CJ at h ⊢;unfold Bf;cases hd:S.down with
 | true=>simp
 | false=>
  rw[hd] at h;cases hl:gG S.L n with
  | none=>simp
  | some f=>rw[hl] at h;simp at h
theorem Ys {S}{n}(h:CJ S n=0)(r:Int)(k:Nat)(hk:k<=(CI S n).size):Bf {S with reads:=r} n (k:Nat)=((CI S n).extract k (min (CI S n).size (k+64)),0):=by
 unfold CJ at h;unfold Bf CI at*;cases hd:S.down with
 | true=>rw[hd] at h;simp at h
 | false=>
  cases hl:gG S.L n with
  | none=>rw[hd,hl] at h;simp at h
  | some f=>
   rw[hl] at hk;simp only at hk ⊢;rw[az dc,az om];simp
theorem Fp {S}(h:Bd S)(r:Int)(h0:0<=r)(h1:r<=1099511627776):Bd {S with reads:=r}:={h with th:=h0,xK:=h1}
theorem MY (X:ay)(a c:Nat)(hc:a<=c):X.data.toList.take a++(X.extract a c).data.toList=X.data.toList.take c:=by
 rw[gg,cL];rw[<-bA a (X.data.toList.take c),du,show min a c=a by omega,cL]
theorem nG (X:ay)(a:Nat)(h:X.size<=a):X.data.toList.take a=X.data.toList:=bz (by rw[<-eZ];omega)
theorem take_len (X:ay)(a:Nat):(X.data.toList.take a).length=min a X.size:=by rw[aK,<-eZ]
theorem JJ{p:Nat}{S}(hD:eF w p b S)(hB:Bd S)(hr:S.reads<=1000000){n:ay}(hn:n.size<=maxLen):
 Calls prog 226 #[ptr p,C n] w (nC S n p b w):=by
 have hpl:=hD.fo.lt;have hbl:=hD.own.lt;obtain⟨HM,HBd⟩:=eN hn hB;obtain⟨W,hW,HW⟩:=nh (w.alloc (.cells #[.pointer E,aw] 206));obtain⟨HI,HDW,HKW⟩:=gi (show Lib.IsBuilder 206 5 w.heap.size w.heap.size [] W by rw[hW];exact Lib.fresh_isBuilder _ _ _) (show eF W p b S by rw[hW];exact hD.alloc _) (show Kp p b w W by rw[hW];exact Kp.alloc _ _);have hsW:w.heap.size<W.heap.size:=by rw[hW];simp
 clear hW hD hB;by_cases hE:CJ S n=0
 ·have hX1:(CI S n).size<=1073741824:=by
   unfold CI;cases hl:gG S.L n with
   | none=>exact aD _
   | some f=>
    have h1:=HBd.xd;have h2:=Ds.DkM.xe (Ds.DkM.l7 hl).1;simp only[ByteArray.size_append];omega
  have HSZ:=H (show px (gG S.L n)=CI S n by unfold CI px;cases gG S.L n<;>rfl);have hr0:=HBd.th;have HRD:=H (Ys hE);have HP:=H (show nC S n p b w=λe w'=>e= .returned (.tuple #[C (CI S n),av])/\eF w' p b {S with reads:=S.reads+(max 1 (((CI S n).size+63) / 64):Nat)}/\Kp p b w w' by
   unfold nC MC;rw[aA hE,aA hE,hE];rfl)
  rw[HP.out];clear hE;obtain⟨X,hX⟩:=fe (CI S n);rw[<-hX] at hX1 HRD HSZ ⊢;clear hX
  go_enter func226,ntmps226
  go_wp2_with fail
  rw[<-HW.out]
  go_loopg [7] (X.size+1) (λg _ wr=>∃ k:Nat,(k=0∨64*k<X.size)/\X.size+1 - k<=g/\Lib.IsBuilder 206 5 w.heap.size w.heap.size (Lib.byteCells (X.data.toList.take (64*k))) wr/\eF wr p b {S with reads:=S.reads+(k:Nat)}/\Kp p b w wr)
  case atStart=>exact⟨0,aG D,om,by simpa[Lib.byteCells] using HI.out,by simpa using HDW.out,HKW⟩
  case round=>
   obtain⟨k,hk,hg,hIB,hDk,hKk⟩:=hrel;have hk2:64*k<=X.size:=om;have HL1:=H (show((Lib.byteCells (X.data.toList.take (64*k))).length:Int)=((64*k:Nat):Int) by rw[Lib.byteCells_length,take_len];omega);have RD:=Ds.vF hDk (Fp HBd _ om om) HM ((64*k:Nat):Int) om om;have HRk:=HRD (S.reads+(k:Nat)) (64*k) hk2;obtain⟨c,hc⟩:=fe (min X.size (64*k+64));rw[<-hc] at HRk;have hck:64*k<=c:=om;have hcX:c<=X.size:=om;have HTE:=H (MY X (64*k) c hck);have hYs:(X.extract (64*k) c).size<=64:=by rw[dR];omega
   generalize X.extract (64*k) c=Y at HRk HTE hYs;have RD2:=H (show Calls prog 295 #[ptr p,C n,I J ((64*k:Nat):Int)] wr λe w'=>e= .returned (.tuple #[C Y,av])/\eF w' p b {S with reads:=S.reads+((k+1:Nat):Int)}/\Kp p b wr w' by
    refine RD.mono ?_;rintro e w' ⟨h1,h2,h3⟩;unfold He at h2;rw[HRk] at h1 h2;rw[aA D] at h2;refine⟨h1,?_,h3⟩;have e3:S.reads+(k:Int)+1=S.reads+((k+1:Nat):Int):=om;rw[<-e3];exact h2)
   obtain⟨HIB,HKk,HCC⟩:=gi hIB hKk hc;have hsr:W.heap.size<=wr.heap.size∨w.heap.size<=wr.heap.size:=aI hKk.size;have hswr:w.heap.size<=wr.heap.size:=hKk.size;clear hIB hDk hKk HRk hc hsr;have hbl3:(Lib.byteCells (X.data.toList.take (64*k))).length+Y.size<=140737488355328:=by rw[Lib.byteCells_length,take_len];omega
   by_cases I8:X.size<=64*k+64
   ·have hcX2:c=X.size:=by have:=HCC.out;omega
    have HN1:=H (show((max 1 ((X.size+63) / 64):Nat))=k+1 by rcases hk with rfl | h<;>omega);subst hcX2
    go_wp2_with (first | (go_at_call 296;first | (refine(Tryz.Builder_Len _ _ _ _ HI4).mono ?_;rw[HL4.out];rintro e w5 ⟨rfl,rfl⟩) | (refine(Tryz.Builder_Len _ _ _ _ HIB).mono ?_;rw[HL1.out];rintro e w1 ⟨rfl,rfl⟩)) | (go_at_call 295;refine RD2.mono ?_;rintro e w2 ⟨rfl,hD2,hK2⟩;obtain⟨HI2,HD2,HK2⟩:=gi (Pf HIB hK2 hpl hbl) hD2 (HKk.trans hK2);have hs2:=hK2.size;clear hD2 hK2) | (go_at_call 111;refine(uG _ _ _ Y _ HI2 hbl3 om).mono ?_;rintro e w3 ⟨rfl,hI3,hb3⟩;obtain⟨HD3,HK3,HI3⟩:=gi (HD2.below hb3 hpl hbl) (yj HK2 hb3 (aB _) om) hI3;have hs3:=hb3.size;clear hI3 hb3) | (go_at_call 99;refine(Ds.tM HD3 HM).mono ?_;rw[HSZ.out];rintro e w4 ⟨rfl,hb4⟩;obtain⟨HD4,HK4⟩:=eN (HD3.fp hb4) (HK3.trans (Kp.jR hb4));have hI4:Lib.IsBuilder 206 5 w.heap.size w.heap.size (Lib.byteCells (X.data.toList.take X.size)) w4:=qI;obtain⟨HL4,HI4⟩:=eN (show((Lib.byteCells (X.data.toList.take X.size)).length:Int)=(X.size:Int) by rw[Lib.byteCells_length,take_len];omega) hI4;have hs4:=hb4.size;clear hI4 hb4) | (go_at_call 112;refine qx (Tryz.Builder_String_any _ _ _ _ HI4 om) λw6 hb6=>?_))
    go_ret2
    refine⟨?_,by rw[HN1.out];exact HD4.below hb6 hpl hbl,yj HK4 hb6 (aB _) om⟩;rw[show(⟨(X.data.toList.take X.size).toArray⟩:ay)=X from lv (by rw[nG X X.size (aB _)])];rfl
   ·have hc2:c=64*k+64:=by have:=HCC.out;omega
    subst hc2
    go_wp2_with (first | (go_at_call 296;first | (refine(Tryz.Builder_Len _ _ _ _ HI4).mono ?_;rw[HL4.out];rintro e w5 ⟨rfl,rfl⟩) | (refine(Tryz.Builder_Len _ _ _ _ HIB).mono ?_;rw[HL1.out];rintro e w1 ⟨rfl,rfl⟩)) | (go_at_call 295;refine RD2.mono ?_;rintro e w2 ⟨rfl,hD2,hK2⟩;obtain⟨HI2,HD2,HK2⟩:=gi (Pf HIB hK2 hpl hbl) hD2 (HKk.trans hK2);have hs2:=hK2.size;clear hD2 hK2) | (go_at_call 111;refine(uG _ _ _ Y _ HI2 hbl3 om).mono ?_;rintro e w3 ⟨rfl,hI3,hb3⟩;obtain⟨HD3,HK3,HI3⟩:=gi (HD2.below hb3 hpl hbl) (yj HK2 hb3 (aB _) om) hI3;have hs3:=hb3.size;clear hI3 hb3) | (go_at_call 99;refine(Ds.tM HD3 HM).mono ?_;rw[HSZ.out];rintro e w4 ⟨rfl,hb4⟩;obtain⟨HD4,HK4⟩:=eN (HD3.fp hb4) (HK3.trans (Kp.jR hb4));have hI4:Lib.IsBuilder 206 5 w.heap.size w.heap.size (Lib.byteCells (X.data.toList.take (64*k+64))) w4:=qI;have HL4:=H (show((Lib.byteCells (X.data.toList.take (64*k+64))).length:Int)=((64*k+64:Nat):Int) by rw[Lib.byteCells_length,take_len];omega);have HI4:=H hI4;have hs4:=hb4.size;clear hI4 hb4))
    go_roundg (X.size+1 - (k+1))
    case measure=>omega
    case rel=>exact⟨k+1,aI om,aB _,by rw[show 64*(k+1)=64*k+64 by omega];exact HI4,HD4,HK4⟩
 ·obtain⟨HR,HX,HP⟩:=gi (Ds.vF HDW HBd HM 0 om om) (Wi hE) (show nC S n p b w=λe w'=>e= .returned (.tuple #[C lE,I J (CJ S n:Nat)])/\eF w' p b S/\Kp p b w w' by
   unfold nC MC;rw[az hE,az hE];simp)
  rw[HP.out];have hne:((CJ S n:Int) != 0)=Q:=by rw[bne_iff_ne];omega
  have HR2:=H (show Calls prog 295 #[ptr p,C n,av] W λe w'=>e= .returned (.tuple #[C lE,I J (CJ S n:Nat)])/\eF w' p b S/\Kp p b W w' by
   refine HR.mono ?_;rintro e w' ⟨h1,h2,h3⟩;unfold He at h2;rw[HX.out] at h1 h2;rw[az hE] at h2;exact⟨h1,h2,h3⟩)
  generalize CJ S n=ak at*
  go_enter func226,ntmps226
  go_wp2_with fail
  rw[<-HW.out]
  go_loopg [7] 1 (λg _ wr=>wr=W)
  case atStart=>rfl
  case round=>
   subst hrel
   go_wp2_with (first | (go_at_call 296;refine QS (Tryz.Builder_Len _ _ _ _ HI) ?_) | (go_at_call 295;refine HR2.mono ?_;rintro e w2 ⟨rfl,hD2,hK2⟩))
   go_ret2
   exact⟨D,hD2,HKW.trans hK2⟩
end SgM
namespace Tp
open Go Go.RowKit Go.Lib Go.Sort
open FrM CrcM SgM
open Ds.DkM (bf gj ij gQ mY iZ Fl gG mV)
open Ds (Dk eF lg mg jY Iv Bd ptr Kp fP Bf He rZ px lE)
theorem OV {c:UInt8}:∀ (L:List (List UInt8)),c∈Lib.join L [32]->c=32∨∃ x∈L,c∈x
 | [],h=>by simp[Lib.join] at h
 | x::r,h=>by
   rw[Lib.join_cons] at h;rcases bG.1 h with h | h
   ·exact aI ⟨x,sm,h⟩
   ·unfold Lib.joinTail at h;obtain⟨l,hl,hc⟩:=List.mem_flatten.1 h;obtain⟨y,hy,rfl⟩:=bI.1 hl;rcases bG.1 hc with h | h
    ·exact aG fc
    ·exact aI ⟨y,fN,h⟩
theorem GK {F:List ay}(h:F.all mh=Q):(gR F).data.toList.all iq=Q:=by
 unfold gR;rw[aA h,pS,bJ];intro c hc;have key:32<=c.toNat/\c.toNat<=126:=by
  rcases OV _ hc with rfl | ⟨x,hx,hc⟩
  ·decide
  ·obtain⟨y,hy,rfl⟩:=bI.1 hx;have hw:=bJ.1 h y hy;unfold mh at hw;rw[aM,bJ] at hw;have:=hw.1 c hc;unfold Mj at this;simp only[aM,aN] at this;omega
 unfold iq;simp only[aM,aN];exact key
def XQ (e:Ev):UInt8:=UInt8.ofNat (Bt e.kind).toNat
def nz (e:Ev):ay:=Bj (XQ e) (ph e)
theorem O3 {k:Int}(h1:1<=k)(h7:k<=7):isKind (UInt8.ofNat (Bt k).toNat)=Q:=by
 exact oc
theorem Qe {e}(h:fL e=Q):DF (XQ e) (ph e).data.toList=0:=
 Wq (O3 (kD h).1 (kD h).2) (by have:=ny h;rw[eZ] at this;omega) (GK (gV h).1)
theorem uj {e}(h:fL e=Q):(nz e).size<=418/\14<=(nz e).size:=by
 unfold nz;rw[zG (Qe h)];have:=ny h;omega
theorem Je {e}(h:fL e=Q):jM e=Go.Proofs.YtkpdknkidnfgiaaGreatDoor.Vh (XQ e) (ph e):=by
 unfold Tp.jM Go.Proofs.YtkpdknkidnfgiaaGreatDoor.Vh XQ;rw[aA h,<-Tu (kD h).1 (kD h).2]
theorem Te (w)(hg:Gb w):
 aai 116 #[.agg #[I U 0,ax]] w (.tuple #[.agg #[av,av,ax,ax,av,av],.bool z]):=by
 have FRM:=H (λW (hb:Bl w W)=>sF ⟨0,0,bs [],bs [],0,0⟩ W (hg.below hb (aB _)) dc dc (.inr D));have h0:fL ⟨0,0,bs [],bs [],0,0⟩=z:=dc;have f0:jM ⟨0,0,bs [],bs [],0,0⟩= .agg #[I U 0,ax]:=by unfold jM;rw[h0];rfl
 rw[h0,f0] at FRM;obtain⟨FRM',SP⟩:=eN (show ∀ W,Bl w W->Calls prog 185 #[.agg #[av,av,ax,ax,av,av]] W λe' w'=>e'= .returned (.tuple #[.agg #[I U 0,ax],.bool z])/\Below W.heap.size W w' from FRM.out) (λW (hb:Bl w W)=>oW ⟨#[]⟩ W (hg.below hb (aB _)) dc);have hs0:yT ⟨#[]⟩=[]:=dc;rw[hs0] at SP;have NM:=H (λW v (hb:Bl w W) (hs:eO W v [])=>xY 0 D (xZ [] v 0 W (hg.below hb (aB _)) hs (λx hx=>absurd hx sm) dc));have hn0:e8 [] 0=0:=dc;rw[hn0] at NM;clear h0 f0 hs0 hn0 hg;have IX:=H (λW=>Tryz.strings_IndexByte ⟨#[111,99,120,103,114,104,101]⟩ 0 W);have hi:Lib.indexByte (#[111,99,120,103,114,104,101]:Array UInt8).toList (0:Int).toNat.toUInt8= -1:=dc;rw[hi] at IX;clear hi;obtain⟨A,V,hA,hV,BA,BX,HB,HAw,SV⟩:=lj w #[I U 0,ax] 217 #[av,av,ax,ax,av,av] 115;obtain⟨a0,a1⟩:=ni BA;obtain⟨x0,x1,x2,x3,x4,x5⟩:=jg BX;have HX:=H BX;have hb0:=br V
 go_enter func116,ntmps116
 go_upto_region 1 with fail
 rw[<-hV,<-hA];clear hV hA
 go_upto_region 2 with(go_at_call 77;refine aaj (SP _ HB) λv w1 hs hb1=>?_)
 obtain⟨HBB,HS⟩:=eN (HB.ca hb1) hs;clear hs
 go_upto_region 3 with(first | (go_at_call 167;refine QS (IX _) ?_) | (go_at_call 183;refine qx (NM _ _ HBB HS) λw3 hb3=>?_))
 have hb13:=Bl.ca hb1 hb3;have HB3:=H (HB.ca hb13);obtain⟨V4,an,hV4,hG,BG,LV4⟩:=iC w3 #[av,av,ax,ax,av,av] 115;rw[<-hV4,<-hG];clear hV4;replace hG:=H hG;obtain⟨g0,g1,g2,g3,g4,g5⟩:=jg BG;have HB4:=H (HB3.ca LV4);have hb4:=br V4;have v4:=Bl.ca hb13 LV4;clear hG
 go_upto_region 16 with(go_at_call 185;refine qx (FRM' _ HB4) λw8 hb8=>?_)
 obtain⟨hX8,l8⟩:=eN (Bl.bl (Bl.ca v4 hb8) HX) (HB4.ca hb8);obtain⟨V9,Y,hV9,hY,BY,LV9⟩:=iC w8 #[I U 0,ax] 217;rw[<-hV9,<-hY];clear hV9;replace hY:=H hY;obtain⟨y0,y1⟩:=ni BY;obtain⟨l9,hX9⟩:=eN (l8.ca LV9) (Bl.bl LV9 hX8);obtain⟨z0,z1,z2,z3,z4,z5⟩:=rX hX9;have zf:=λj=>Bk.fr hX9 j;have hb9:=br V9
 go_wp2_with fail
 have hA0:=HAw.out;have hY:YS w (A+1) 115 6 V9:=⟨l9,om,_,hX9,D⟩;exact aa1 (eM (p:=2) (a:=3) D _ _ _ _ _ _ _ D (hY.kO _ _ _ _ _ _) underlying115 D BO) D ⟨D,l9.kO om _ _ _ _ _ _⟩
theorem Kn (e)(h:fL e=Q)(w)(hg:Gb w)(g:Nat)(hc:Bk w g 115 e.cells):
 aai 135 #[Z (G ⟨g,0,E⟩) 1 1] w (C (nz e)):=by
 have hn:=jC h;have FRM:=H (λW (hb:Bl w W)=>sF e W (hg.below hb (aB _)) om om (.inl h));have hfs:=ny h;have PK:=H (λW=>DP (XQ e) (ph e) W om);unfold sd at PK;rw[Qe h,<-Je h] at PK
 change Hid (∀ W,Calls prog 211 #[jM e] W λe' w'=>e'= .returned (.tuple #[C (nz e),av])/\Below W.heap.size W w') at PK
 rw[h] at FRM;have hsz:=uj h;generalize nz e=T at PK hsz ⊢;have hf:jM e= .agg #[I U (Bt e.kind),C (ph e)]:=by unfold jM;rw[aA h]
 rw[hf] at PK FRM;clear hf h hn hfs hg;generalize ph e=s at PK FRM;generalize Bt e.kind=c at PK FRM;have hgw:g<w.heap.size:=(aa2.1 hc).1;obtain⟨k,t,u,o,n,st⟩:=e;unfold Ev.v Ev.cells at FRM;unfold Ev.cells at hc;simp only at hc FRM;have e0:=Bk.all hc 0 D;have e1:=Bk.all hc 1 D;have e2:=Bk.all hc 2 D;have e3:=Bk.all hc 3 D;have e4:=Bk.all hc 4 D;have e5:=Bk.all hc 5 D;clear hc;obtain⟨V,hV,HV⟩:=nh (w.alloc (.cells #[.pointer E,aw] 206));obtain⟨HI,HB⟩:=eN (show Lib.IsBuilder 206 5 w.heap.size w.heap.size [] V by rw[hV];exact Lib.fresh_isBuilder _ _ _) (show Bl w V by rw[hV];exact gl _ _);clear hV
 go_enter func135,ntmps135
 go_upto_region 2 with fail
 rw[<-HV.out]
 go_wp2_with fail
 go_loopw [12] (λc wr=>∃ k:Nat,k<=1/\c= I J (k:Int)/\Lib.IsBuilder 206 5 w.heap.size w.heap.size (if k=0 then [] else Lib.strCells T) wr/\Bl w wr) (λc _=>1 - (intOf c).toNat)
 case atStart=>exact⟨0,om,D,HI,HB⟩
 case round=>
  obtain⟨k,hk,rfl,hI,hbr⟩:=hrel;obtain rfl | rfl:k=0∨k=1:=om
  ·obtain⟨HIr,HBR,HL⟩:=gi (show Lib.IsBuilder 206 5 w.heap.size w.heap.size [] wr from hI) hbr (show([]:List Value).length+T.size<=140737488355328 by simp;omega);clear hI
   go_upto_region 5 with fail
   clear hbr;obtain⟨V5,ak,hV5,hE,BE,LV5⟩:=iC wr #[I J k,I J t,C u,C o,I J n,I J st] 115;rw[<-hV5,<-hE];clear hV5;replace hE:=H hE;obtain⟨e0,e1,e2,e3,e4,e5⟩:=jg BE;have hb5:=br V5;have L5:=H LV5;clear hE
   go_upto_region 6 with(go_at_call 185;refine qx (FRM _ (HBR.ca L5)) λw6 hb6=>?_)
   have L6:=H (L5.ca hb6);obtain⟨V7,F,hV7,hF,BF,LV7⟩:=iC w6 #[I U c,C s] 217;rw[<-hV7,<-hF];clear hV7;replace hF:=H hF;obtain⟨f0,f1⟩:=ni BF;have hb7:=br V7;have L7:=H (L6.ca LV7);clear hF
   go_wp2_with (first | (go_at_call 211;refine qx (PK _) λw8 hb8=>?_) | (go_at_call 111;refine(uG w.heap.size w.heap.size [] T _ (sy HIr (L7.ca hb8)) HL (HBR.ca (L7.ca hb8)).size).mono ?_;rintro e w9 ⟨rfl,hw9,hb9⟩))
   have l9:=L7.ca hb8
   go_round
   case measure=>simp[intOf]
   case rel=>exact⟨1,om,D,aI (by simpa using hw9),(HBR.ca l9).trans hb9⟩
  ·have HIr:=H (show Lib.IsBuilder 206 5 w.heap.size w.heap.size (Lib.byteCells T.data.toList) wr from hI);have hne:T.data.toList≠[]:=by
    intro h0;have:T.data.toList.length=0:=by rw[h0];rfl
    rw[<-eZ] at this;omega
   have HT:=H (show(⟨T.data.toList.toArray⟩:ay)=T from rfl);clear hI
   go_wp2_with (go_at_call 112;refine qx (Tryz.Builder_String w.heap.size w.heap.size T.data.toList _ HIr hne) λw9 hb9=>?_)
   go_ret;exact⟨D,hbr.trans hb9⟩
def mS (l:List Ev):ay:=bs (l.flatMap λe=>(nz e).data.toList)
theorem Tm {e}(h:fL e=Q)(X:ay)(t:List UInt8)(hX:X.data.toList=(nz e).data.toList++t)(hl:X.size<=9223372036854775807)(w:World):
 aai 299 #[C X] w (.tuple #[jM e,I J (nz e).size,av]):=by
 have hp:=Qe h;have hw:(nz e).data.toList=whole (XQ e) (ph e).data.toList:=xS hp;obtain⟨h1,h2,h3,h4⟩:=YB t hp;rw[<-hw,<-hX] at h1 h2 h3 h4;refine(qF X w hl).mono ?_;rintro e' w' ⟨rfl,hb⟩;have hb3:yY X=ph e:=by
  have:=zL X;rw[h3] at this;exact lv this
 have h5:(nz e).size=14+(ph e).data.toList.length:=by rw[<-eZ];exact zG hp
 refine⟨?_,hb⟩;rw[h2,hb3,h1,h4,h5,Je h];rfl
theorem OA (X:ay)(hX:X.data.toList=[])(w:World):
 aai 299 #[C X] w (.tuple #[.agg #[I U 0,ax],av,I J 43]):=by
 have h0:X=⟨#[]⟩:=lv hX;subst h0;refine(qF ⟨#[]⟩ w dc).mono ?_;rintro e' w' ⟨rfl,hb⟩;refine⟨?_,hb⟩;have h1:vQ ([]:List UInt8)=43:=dk;have h2:Rh ([]:List UInt8)=0:=by unfold Rh;rw[h1];rfl
 have h3:Ku ([]:List UInt8)=0:=by unfold Ku;rw[h1];rfl
 have h4:yY ⟨#[]⟩=⟨#[]⟩:=by have:=zL ⟨#[]⟩;have e5:XP ([]:List UInt8)=[]:=by{unfold XP;rw[h1];rfl};exact lv (this.trans e5)
 show Ending.returned (.tuple #[Go.Proofs.YtkpdknkidnfgiaaGreatDoor.Vh (Rh []) (yY ⟨#[]⟩),I J (Ku []),I J (vQ [])])=_;rw[h1,h2,h3,h4];rfl
theorem Ls (l)(k:Nat):(mS l).data.toList.drop (mS (l.take k)).size=(l.drop k).flatMap λe=>(nz e).data.toList:=by
 unfold mS;rw[iR,pS]
 conv=>lhs;rw[<-bA k l,bB]
 rw[show List.take k (List.take k l++List.drop k l)=List.take k l by rw[bA]];exact List.drop_left
theorem Ad {l:List Ev}(hk:k<l.length):(mS (l.take (k+1))).size=(mS (l.take k)).size+(nz l[k]).size:=by
 unfold mS;rw[iR,iR,aL hk,bB,aU]
 congr 1
 rw[bh,List.flatMap_nil,aY,<-eZ]
theorem Ji {l:List Ev}(k:Nat):(mS (l.take k)).size<=(mS l).size:=by
 unfold mS;rw[iR,iR]
 conv=>rhs;rw[<-bA k l,bB,aU]
 omega
theorem Pq:(prog.info? 115).map (λi=>(i.zero,i.size,i.bytes))=G (G (.agg #[av,av,ax,ax,av,av]),6,64):=kr
theorem Yd:Ty 299 115 6 64:=⟨underlying299,fz Pq D,dc,dc⟩
theorem NP (l:List Ev)(hl:l.length<=1000)(hr:∀ e∈l,fL e=Q)(hs:(mS l).size<=1000000)(w)(hg:Gb w):
 Calls prog 228 #[C (mS l)] w λe' w'=>∃ v,e'= .returned (.tuple #[v,I J (mS l).size])/\Rw Ev.cs 115 6 w' w.heap.size v l/\Bl w w':=by
 obtain⟨OF,OZ⟩:=eN (λe (he:e∈l) W (hb:Bl w W)=>UZ e W (hg.below hb (aB _)) (hr e he)) (λW (hb:Bl w W)=>Te W (hg.below hb (aB _)));obtain⟨s,hs0,HS⟩:=nh (mS l);rw[<-hs0] at hs ⊢;clear hs0 hg;obtain⟨n,hn,HN⟩:=nh l.length;rw[<-hn] at hl;clear hn;have NX:=H hr;clear hr
 go_enter func228,ntmps228
 go_wp2_with fail
 go_loopw [4,5] (λo c wr=>∃ k:Nat,k<=n/\c= I J ((mS (l.take k)).size:Int)/\Rw Ev.cs 115 6 wr w.heap.size o (l.take k)/\Bl w wr) (λ_ c _=>s.size - (intOf c).toNat)
 case atStart=>exact⟨0,aD _,by simp[mS,iR],by simpa using Rw.nil,Bl.eH⟩
 case round=>
  obtain⟨k,hk,rfl,ho,hb⟩:=hrel;obtain⟨m,hm,HM⟩:=nh ((mS (l.take k)).size);have hms:m<=s.size:=by rw[hm,HS.out];exact Ji k
  rw[<-hm];have hXX:(s.extract m s.size).data.toList=(l.drop k).flatMap λe=>(nz e).data.toList:=by
   rw[<-Ls,<-hm,<-HS.out,gg,bz (by rw[<-eZ];exact aB _)]
  have hXs:(s.extract m s.size).size<=9223372036854775807:=by rw[dR];omega
  have i1:(0:Int)<=(m:Int):=om;have i2:(m:Int)<=(s.size:Int):=om;clear hm;obtain⟨HB,HO⟩:=eN hb ho;clear ho;by_cases hlt:k<n
  ·have hk':k<l.length:=by rw[<-HN.out];exact hlt
   obtain⟨e,he⟩:=fe (l[k]);have hel:e∈l:=by rw[he];exact aV _
   obtain⟨NE,OE⟩:=eN (λW=>Tm (NX e hel) (s.extract m s.size) ((l.drop (k+1)).flatMap λe=>(nz e).data.toList) (by rw[hXX,aR hk',bh,he]) hXs W) (OF e hel);have hes:(nz e).size+m<=s.size:=by
    have h1:=Ad hk';have h2:=Ji (l:=l) (k+1);rw[<-HM.out,<-he] at h1;rw[<-HS.out] at h2;omega
   obtain⟨d,hd,HD⟩:=nh ((nz e).size);have hd14:=(uj (NX e hel)).2;rw[<-hd] at NE hes hd14;have HE:=H he;have hfv:jM e= .agg #[I U (Bt e.kind),C (ph e)]:=by unfold jM;rw[aA (NX e hel)]
   rw[hfv] at NE OE;clear hfv hd he hXX;generalize Bt e.kind=c at NE OE;generalize ph e=b at NE OE;obtain⟨X,hX,HX⟩:=nh (s.extract m s.size);rw[<-hX] at NE hXs;clear hX;have hbr:=br wr
   go_upto_region 4 with(go_at_call 299;rw[<-HX.out];refine qx (NE _) λw2 hb2=>?_)
   obtain⟨V3,F,hV3,hF,BF,LV3⟩:=iC w2 #[I U c,C b] 217;rw[<-hV3,<-hF];clear hV3;replace hF:=H hF;obtain⟨f0,f1⟩:=ni BF;have L3:=H (hb2.ca LV3);have hb3:=br V3;clear hF;obtain⟨ek,et,eu,eo,en,es⟩:=e;unfold Ev.v Ev.cells at OE;simp only at OE
   go_upto_region 5 with(go_at_call 116;refine qx (OE _ (HB.ca L3)) λw4 hb4=>?_)
   obtain⟨V5,ak,hV5,hE,BE,LV5⟩:=iC w4 #[I J ek,I J et,C eu,C eo,I J en,I J es] 115;rw[<-hV5,<-hE];clear hV5;replace hE:=H hE;obtain⟨e0,e1,e2,e3,e4,e5⟩:=jg BE;have L5:=H ((L3.ca hb4).trans (Below.mono LV5 (L3.ca hb4).size));have HO5:=H (HO.bl L5);have hb5:=br V5;obtain⟨HTL,HSZ⟩:=eN (show(l.take k).length<=99999 by rw[aK];omega) (show w.heap.size<=V5.heap.size by have:=(HB.ca L5).size;omega);clear hE
   go_wp2_with (at_builtin;refine fH Yd D _ _ D w.heap.size D (HO5.bl (gl _ _)) D (eL _ _) (y:=⟨ek,et,eu,eo,en,es⟩) D D (Ha _) HTL (aH HSZ sm) ?_;intro v7 w7 ho7 hb7)
   go_round
   case measure=>simp only[intOf];omega
   case rel=>
    refine⟨k+1,hlt,?_,?_,hb7 w D ((HB.ca L5).al _)⟩
    ·rw[Ad hk',<-HM.out,<-HE.out,<-HD.out];rfl
    ·rw[aL hk',<-HE.out];exact ho7
  ·have hkn:k=n:=om;have h0:(l.drop k)=[]:=bR ju;rw[h0] at hXX;have hms2:m=s.size:=by rw[HM.out,HS.out,bz ju]
   have NE:=H (λW=>OA (s.extract m s.size) hXX W);clear hXX;obtain⟨X,hX,HX⟩:=nh (s.extract m s.size);rw[<-hX] at NE hXs;obtain⟨HK,H2⟩:=eN hkn hms2;clear hX h0 hkn hms2;have hbr:=br wr
   go_upto_region 4 with(go_at_call 299;rw[<-HX.out];refine qx (NE _) λw2 hb2=>?_)
   obtain⟨V3,F,hV3,hF,BF,LV3⟩:=iC w2 #[I U 0,ax] 217;rw[<-hV3,<-hF];clear hV3;replace hF:=H hF;obtain⟨f0,f1⟩:=ni BF;have L3:=H (hb2.ca LV3);have hb3:=br V3;clear hF
   go_wp2_with (go_at_call 116;refine qx (OZ _ (HB.ca L3)) λw4 hb4=>?_)
   go_ret2
   have hO:=HO.out;rw[bz (by rw[<-HN.out,HK.out];exact aB _)] at hO;refine⟨_,aP (λx:Nat=>Ending.returned (.tuple #[_,I J (x:Int)])) H2,hO.bl (Bl.al (L3.ca hb4) _),HB.ca (Bl.al (L3.ca hb4) _)⟩
