/- Lemmas for AfterglowSecret: what functions of the program return; no condition. -/
import Derived.Test.YtkpdknkidnfgiaaGreatDoorJV
import Derived.Test.YtkpdknkidnfgiaaGreatDoorJT
import Derived.Test.YtkpdknkidnfgiaaGreatDoorJU
set_option maxHeartbeats 0
set_option maxRecDepth 100000
set_option linter.unusedVariables false
open Go.Value renaming int->I,string->C,slice->Z
open Go.IntKind renaming i64->J,u8->U
open Option renaming none->E,some->G
open Bool renaming true->Q,false->z
open Go.Lib renaming hid->H
open Go.Proofs.Tryz
namespace Go.Proofs.YtkpdknkidnfgiaaGreatDoor
theorem abb{p:Prop}(h:p:=by
 go_wp2_with fail
 go_ret;exact⟨by rw[HR.out];rfl,D⟩):p:=h
theorem rE{p:Prop}(h:p:=by
 have hAX:w.heap.size<=A+1:=om;exact aa1 (eS (p:=2) D _ _ _ _ _ _ _ D (Bk.T3 X3 D _ _ _ _ _ _ _ _ _ _ _ _ _ _ _) underlying121 D ub) D ⟨D,Bl.T3 L3 hAX _ _ _ _ _ _ _ _ _ _ _ _ _ _ _⟩):p:=h
theorem ri{p:Prop}(h:p:=by
 go_region_held3 (λw'=>Bl V0 w') (exact n7) (first | (go_at_call 190;refine(ON _).mono ?_;rintro e w5 ⟨rfl,hb5⟩))
 all_goals
  go_wp2_with fail
  go_ret;exact⟨D,HB.ca (by first | assumption | exact Bl.ca ms ms)⟩):p:=h
theorem kv{p:Prop}(h:p:=by
 have HB:=H (show Bl w V0 by rw[hV0];exact gl _ _);replace RI:=H (λW (hW:Bl V0 W)=>(RI W (HB.ca hW)).mono (λe w' (h:_/\_)=>(⟨h.1,hW.ca h.2⟩:_/\Bl V0 w')));obtain⟨a0,a1,a2,a3,a4,a5,a6,a7,a8,a9,sG,uB,a12,sQ,sP⟩:=Bk.Ap BA;have hb0:=br V0
 go_enter func83,ntmps83
 go_upto_region 1 with fail
 rw[<-hV0,<-hA];clear hV0 hA
 go_wp2_with (first | ((go_at_call 117;with_reducible refine(RI.out _ hb0).mono ?_;rintro e w1 ⟨rfl,hb1⟩)) | ((go_at_call 118;with_reducible refine(WD.out _ (HB.out.ca hb1)).mono ?_;rintro e w2 ⟨v2,rfl,hs2,hb2⟩)) | ((go_at_call 54;with_reducible refine(LN.out _ _ hs2).mono ?_;rintro e w3 ⟨rfl,hb3⟩)))
 go_ret;exact⟨D,HB.ca (hb1.ca (hb2.ca hb3))⟩):p:=h
variable {u:ByteArray} {A c g n off:Nat} {t:TypeId} {c0 c1 c10 c11 c12 c13 c14 c2 c3 c4 c5 c6 c7 c8 c9:Value} {V W w:World}
namespace Tp
open Go Go.RowKit Go.Lib Go.Sort
open FrM CrcM SgM
theorem vE:∀ (vs:List Value) (o:Nat) (cs:Array Value),o+vs.length=cs.size->(setMany cs o vs).toList=cs.toList.take o++vs
 | [],o,cs,h=>by
   show cs.toList=_;rw[aY,bz (by simp at h ⊢;omega)]
 | v::r,o,cs,h=>by
   have hl:o<cs.toList.length:=by simp at h ⊢;omega
   show(setMany (cs.setIfInBounds o v) (o+1) r).toList=_;rw[vE r (o+1) (cs.setIfInBounds o v) (by simp at h ⊢;omega),Array.toList_setIfInBounds,aL (by simpa using hl),dL,List.take_set_of_le (aB _)];simp
abbrev US (W:World)(A:Nat)(c0 c1 c2 c3 c4 c5 c6 c7 c8 c9 c10 c11 c12 c13 c14:Value):World:=(((((((((((((((W.setCell ⟨A,0,E⟩ c0).setCell ⟨A,1,E⟩ c1).setCell ⟨A,2,E⟩ c2).setCell ⟨A,3,E⟩ c3).setCell ⟨A,4,E⟩ c4).setCell ⟨A,5,E⟩ c5).setCell ⟨A,6,E⟩ c6).setCell ⟨A,7,E⟩ c7).setCell ⟨A,8,E⟩ c8).setCell ⟨A,9,E⟩ c9).setCell ⟨A,10,E⟩ c10).setCell ⟨A,11,E⟩ c11).setCell ⟨A,12,E⟩ c12).setCell ⟨A,13,E⟩ c13).setCell ⟨A,14,E⟩ c14)
theorem Bk.put{l:List Value}(h:Bk W g t ⟨l⟩)(i:Nat)(u):Bk (W.setCell ⟨g,i,E⟩ u) g t ⟨l.set i u⟩:=by
 have:=Bk.set h i u;rw[show(⟨l⟩:Array Value).setIfInBounds i u=⟨l.set i u⟩ from Array.toList_inj.1 sm] at this;exact this
theorem Bk.dr{cs}(h:Bk W g t cs):Bk W.drew g t cs:=h
theorem Bk.T3{cs}(h:Bk W A t cs)(hs:cs.size=15)(c0 c1 c2 c3 c4 c5 c6 c7 c8 c9 c10 c11 c12 c13 c14):Bk (US W A c0 c1 c2 c3 c4 c5 c6 c7 c8 c9 c10 c11 c12 c13 c14) A t #[c0,c1,c2,c3,c4,c5,c6,c7,c8,c9,c10,c11,c12,c13,c14]:=by
 have h1:=Bk.J3 [c0,c1,c2,c3,c4,c5,c6,c7,c8,c9,c10,c11,c12,c13,c14] 0 W cs h;have h2:setMany cs 0 [c0,c1,c2,c3,c4,c5,c6,c7,c8,c9,c10,c11,c12,c13,c14]=#[c0,c1,c2,c3,c4,c5,c6,c7,c8,c9,c10,c11,c12,c13,c14]:=by
  apply Array.toList_inj.1;rw[vE _ 0 cs (by rw[hs];rfl)];rfl
 rw[h2] at h1;exact h1
theorem Bl.T3(h:Bl V W)(hA:V.heap.size<=A)(c0 c1 c2 c3 c4 c5 c6 c7 c8 c9 c10 c11 c12 c13 c14):Bl V (US W A c0 c1 c2 c3 c4 c5 c6 c7 c8 c9 c10 c11 c12 c13 c14):=
 (Bl.st (Bl.st (Bl.st (Bl.st (Bl.st (Bl.st (Bl.st (Bl.st (Bl.st (Bl.st (Bl.st (Bl.st (Bl.st (Bl.st (Bl.st h (p:=⟨A,0,E⟩) hA c0) (p:=⟨A,1,E⟩) hA c1) (p:=⟨A,2,E⟩) hA c2) (p:=⟨A,3,E⟩) hA c3) (p:=⟨A,4,E⟩) hA c4) (p:=⟨A,5,E⟩) hA c5) (p:=⟨A,6,E⟩) hA c6) (p:=⟨A,7,E⟩) hA c7) (p:=⟨A,8,E⟩) hA c8) (p:=⟨A,9,E⟩) hA c9) (p:=⟨A,10,E⟩) hA c10) (p:=⟨A,11,E⟩) hA c11) (p:=⟨A,12,E⟩) hA c12) (p:=⟨A,13,E⟩) hA c13) (p:=⟨A,14,E⟩) hA c14)
theorem ub:(prog.info? 121).map (·.size)=G 15:=kr
theorem tF (n:Int)(w):Calls prog 187 #[I J n] w λe w'=>e= .returned (.bool (fQ n))/\w=w':=by
 by_cases h:0<=n
 ·by_cases h2:n<=1099511627776;have HR:=H (show fQ n=Q by unfold fQ;rw[aF h,aF h2];rfl);rotate_left;have HR:=H (show fQ n=z by unfold fQ;rw[aC h2,Bool.and_false]);rotate_left
  all_goals
   have d1:decide (n≥0)=Q:=aF h
  have d2:decide (n<=1099511627776)=Q:=aF h2;rotate_left;have d2:decide (n<=1099511627776)=z:=aC h2;have d3:(n>1099511627776):=om;rotate_left
  all_goals
   go_enter func187,ntmps187
   exact abb
 ·have HR:=H (show fQ n=z by unfold fQ;rw[aC h,Bool.false_and]);have d1:decide (n≥0)=z:=aC h;have d3:(n<0):=om
  go_enter func187,ntmps187
  exact abb
theorem Qx (w)(hg:Gb w):aai 189 #[ax] w (.bool Q):=by
 have PA:=H (xU w hg);clear hg
 go_enter func189,ntmps189
 go_wp2_with (go_at_call 124;refine qx PA λw1 hb1=>?_)
 go_ret;exact⟨D,hb1.al _⟩
theorem GH:(∀ (k t:Int) (u o:ay) (n st:Int) (w:World),aai 190 #[.agg #[av,I J k,I J t,C u,C o,I J n,I J st,ax,ax,ax,av,av,av,av,ax]] w (.agg #[av,I J k,I J t,C u,C o,I J n,I J st,ax,ax,ax,av,av,av,av,ax]))/\
 (∀ (w:World),aai 190 #[.agg #[I J 1,av,av,ax,ax,av,av,ax,ax,ax,av,av,av,av,ax]] w (.agg #[I J 1,av,av,ax,ax,av,av,ax,ax,ax,av,av,av,av,ax]))/\
 (∀ (u:ay) (w:World),aai 190 #[.agg #[I J 3,av,av,ax,ax,av,av,C u,ax,ax,av,av,av,av,ax]] w (.agg #[I J 3,av,av,ax,ax,av,av,C u,ax,ax,av,av,av,av,ax])):=by
 refine⟨?_,?_,?_⟩;intro k t u o n st w;rotate_left;intro w;rotate_left;intro u w;rotate_left;obtain⟨A,V0,hA,hV0,BA,BX,HB,HAw,SV⟩:=lj w #[av,I J k,I J t,C u,C o,I J n,I J st,ax,ax,ax,av,av,av,av,ax] 121 #[av,av,av,ax,ax,av,av,ax,ax,ax,av,av,av,av,ax] 121;rotate_left;obtain⟨A,V0,hA,hV0,BA,BX,HB,HAw,SV⟩:=lj w #[I J 1,av,av,ax,ax,av,av,ax,ax,ax,av,av,av,av,ax] 121 #[av,av,av,ax,ax,av,av,ax,ax,ax,av,av,av,av,ax] 121;rotate_left;obtain⟨A,V0,hA,hV0,BA,BX,HB,HAw,SV⟩:=lj w #[I J 3,av,av,ax,ax,av,av,C u,ax,ax,av,av,av,av,ax] 121 #[av,av,av,ax,ax,av,av,ax,ax,ax,av,av,av,av,ax] 121;rotate_left
 all_goals
  obtain⟨a0,a1,a2,a3,a4,a5,a6,a7,a8,a9,sG,uB,a12,sQ,sP⟩:=mE BA;obtain⟨x0,x1,x2,x3,x4,x5,x6,x7,x8,x9,x10,x11,x12,x13,x14⟩:=mE BX;have HX:=H BX;have hb0:=br V0
  go_enter func190,ntmps190
  go_upto_region 1 with fail
  rw[<-hV0,<-hA];clear hV0 hA
  go_upto_region 2 with fail
 obtain⟨V2,Y,hV2,hY,BY,LV2⟩:=iC V0 #[av,av,av,ax,ax,av,av,ax,ax,ax,av,av,av,av,ax] 121;rotate_left;obtain⟨V2,Y,hV2,hY,BY,LV2⟩:=iC V0 #[I J 1,av,av,ax,ax,av,av,ax,ax,ax,av,av,av,av,ax] 121;rotate_left;obtain⟨V2,Y,hV2,hY,BY,LV2⟩:=iC V0 #[I J 3,av,av,ax,ax,av,av,ax,ax,ax,av,av,av,av,ax] 121;rotate_left
 all_goals
  rw[<-hV2,<-hY];clear hV2;replace hY:=H hY;obtain⟨y0,y1,y2,y3,y4,y5,y6,y7,y8,y9,y10,y11,y12,y13,y14⟩:=mE BY;have HYB:=H BY;have hb2:Bl V0 V2:=LV2.out;have yf:=λj=>Bk.fr HYB j;have hbY:=br V2
  go_upto_region 11 with fail
 have k3:Bk (((((((V2.setCell ⟨Y,1,E⟩ (I J k)).setCell ⟨Y,2,E⟩ (I J t)).setCell ⟨Y,3,E⟩ (C u)).setCell ⟨Y,4,E⟩ (C o)).setCell ⟨Y,5,E⟩ (I J n)).setCell ⟨Y,6,E⟩ (I J st))) Y 121 #[av,I J k,I J t,C u,C o,I J n,I J st,ax,ax,ax,av,av,av,av,ax]:=Bk.put (Bk.put (Bk.put (Bk.put (Bk.put (Bk.put HYB 1 (I J k)) 2 (I J t)) 3 (C u)) 4 (C o)) 5 (I J n)) 6 (I J st);have l3:=Bl.st (Bl.st (Bl.st (Bl.st (Bl.st (Bl.st hb2 (p:=⟨Y,1,E⟩) (bn hY.symm) (I J k)) (p:=⟨Y,2,E⟩) (bn hY.symm) (I J t)) (p:=⟨Y,3,E⟩) (bn hY.symm) (C u)) (p:=⟨Y,4,E⟩) (bn hY.symm) (C o)) (p:=⟨Y,5,E⟩) (bn hY.symm) (I J n)) (p:=⟨Y,6,E⟩) (bn hY.symm) (I J st);generalize ((((((V2.setCell ⟨Y,1,E⟩ (I J k)).setCell ⟨Y,2,E⟩ (I J t)).setCell ⟨Y,3,E⟩ (C u)).setCell ⟨Y,4,E⟩ (C o)).setCell ⟨Y,5,E⟩ (I J n)).setCell ⟨Y,6,E⟩ (I J st))=V3 at k3 l3 ⊢;rotate_left;have k3:Bk V2 Y 121 #[I J 1,av,av,ax,ax,av,av,ax,ax,ax,av,av,av,av,ax]:=HYB.out;have l3:=hb2;rotate_left;have k3:Bk ((V2.setCell ⟨Y,7,E⟩ (C u))) Y 121 #[I J 3,av,av,ax,ax,av,av,C u,ax,ax,av,av,av,av,ax]:=Bk.put HYB 7 (C u);have l3:=Bl.st hb2 (p:=⟨Y,7,E⟩) (bn hY.symm) (C u);generalize (V2.setCell ⟨Y,7,E⟩ (C u))=V3 at k3 l3 ⊢;rotate_left
 all_goals
  clear hbY;obtain⟨y0,y1,y2,y3,y4,y5,y6,y7,y8,y9,y10,y11,y12,y13,y14⟩:=JD k3;obtain⟨X3,L3⟩:=eN (Bl.bl l3 HX) (HB.ca l3);obtain⟨x0,x1,x2,x3,x4,x5,x6,x7,x8,x9,x10,x11,x12,x13,x14⟩:=JD X3;have xf:=λj=>Bk.fr X3 j
  go_wp2_with fail
  have hA0:=HAw.out;have hAX:w.heap.size<=A+1:=om;exact aa1 (eS (p:=2) D _ _ _ _ _ _ _ D (Bk.T3 X3 D _ _ _ _ _ _ _ _ _ _ _ _ _ _ _) underlying121 D ub) D ⟨D,Bl.T3 L3 hAX _ _ _ _ _ _ _ _ _ _ _ _ _ _ _⟩
theorem YH (x u)(a b t m:Int)(w):aai 190 #[.agg #[I J 4,av,av,ax,ax,av,av,ax,C x,C u,I J a,I J b,I J t,I J m,ax]] w (.agg #[I J 4,av,av,ax,ax,av,av,ax,C x,C u,I J a,I J b,I J t,I J m,ax]):=by
 obtain⟨A,V0,hA,hV0,BA,BX,HB,HAw,SV⟩:=lj w #[I J 4,av,av,ax,ax,av,av,ax,C x,C u,I J a,I J b,I J t,I J m,ax] 121 #[av,av,av,ax,ax,av,av,ax,ax,ax,av,av,av,av,ax] 121;obtain⟨a0,a1,a2,a3,a4,a5,a6,a7,a8,a9,sG,uB,a12,sQ,sP⟩:=mE BA;obtain⟨x0,x1,x2,x3,x4,x5,x6,x7,x8,x9,x10,x11,x12,x13,x14⟩:=mE BX;have HX:=H BX;have hb0:=br V0
 go_enter func190,ntmps190
 go_upto_region 1 with fail
 rw[<-hV0,<-hA];clear hV0 hA
 go_upto_region 2 with fail
 obtain⟨V2,Y,hV2,hY,BY,LV2⟩:=iC V0 #[I J 4,av,av,ax,ax,av,av,ax,ax,ax,av,av,av,av,ax] 121;rw[<-hV2,<-hY];clear hV2;replace hY:=H hY;obtain⟨y0,y1,y2,y3,y4,y5,y6,y7,y8,y9,y10,y11,y12,y13,y14⟩:=mE BY;have HYB:=H BY;have hb2:Bl V0 V2:=LV2.out;have yf:=λj=>Bk.fr HYB j;have hbY:=br V2
 go_upto_region 8 with fail
 have hAY:A∉[Y]:=by have h1:=hY.out;have h2:=SV.out;simp;omega
 replace a0:=λW (h:KF [Y] V2 W)=>(KF.ce h (a0 V2 hb2) hAY:W.cell? ⟨A,0,E⟩=G (I J 4));replace a1:=λW (h:KF [Y] V2 W)=>(KF.ce h (a1 V2 hb2) hAY:W.cell? ⟨A,1,E⟩=G av);replace a2:=λW (h:KF [Y] V2 W)=>(KF.ce h (a2 V2 hb2) hAY:W.cell? ⟨A,2,E⟩=G av);replace a3:=λW (h:KF [Y] V2 W)=>(KF.ce h (a3 V2 hb2) hAY:W.cell? ⟨A,3,E⟩=G ax);replace a4:=λW (h:KF [Y] V2 W)=>(KF.ce h (a4 V2 hb2) hAY:W.cell? ⟨A,4,E⟩=G ax);replace a5:=λW (h:KF [Y] V2 W)=>(KF.ce h (a5 V2 hb2) hAY:W.cell? ⟨A,5,E⟩=G av);replace a6:=λW (h:KF [Y] V2 W)=>(KF.ce h (a6 V2 hb2) hAY:W.cell? ⟨A,6,E⟩=G av);replace a7:=λW (h:KF [Y] V2 W)=>(KF.ce h (a7 V2 hb2) hAY:W.cell? ⟨A,7,E⟩=G ax);replace a8:=λW (h:KF [Y] V2 W)=>(KF.ce h (a8 V2 hb2) hAY:W.cell? ⟨A,8,E⟩=G (C x));replace a9:=λW (h:KF [Y] V2 W)=>(KF.ce h (a9 V2 hb2) hAY:W.cell? ⟨A,9,E⟩=G (C u));replace sG:=λW (h:KF [Y] V2 W)=>(KF.ce h (sG V2 hb2) hAY:W.cell? ⟨A,10,E⟩=G (I J a));replace uB:=λW (h:KF [Y] V2 W)=>(KF.ce h (uB V2 hb2) hAY:W.cell? ⟨A,11,E⟩=G (I J b));replace a12:=λW (h:KF [Y] V2 W)=>(KF.ce h (a12 V2 hb2) hAY:W.cell? ⟨A,12,E⟩=G (I J t));replace sQ:=λW (h:KF [Y] V2 W)=>(KF.ce h (sQ V2 hb2) hAY:W.cell? ⟨A,13,E⟩=G (I J m));replace sP:=λW (h:KF [Y] V2 W)=>(KF.ce h (sP V2 hb2) hAY:W.cell? ⟨A,14,E⟩=G ax);refine jI (T:=TT) (S:=KF [Y] V2) [] trivial (KF.dr KF.eH) λhT0 hS0=>?_
 try dsimp only at hT0 hS0
 refine qd 0 ?_;refine td 1 ?_;refine qd 2 ?_;refine td 3 ?_;refine qd 4 ?_;refine td 5 ?_;refine qd 6 ?_;refine eK 7 λKQ hK=>?_;go_simp;have hS1:=KF.dr (KF.st (KF.st (KF.st (KF.st (KF.st (KF.eH (F:=[Y]) (w:=V2)) (p:=⟨Y,8,E⟩) sm (C x)) (p:=⟨Y,9,E⟩) sm (C u)) (p:=⟨Y,10,E⟩) sm (I J a)) (p:=⟨Y,11,E⟩) sm (I J b)) (p:=⟨Y,12,E⟩) sm (I J t));have hT1:True:=trivial;refine kq hK ?_;refine qd 8 ?_;refine eK 9 λKQ hK=>?_;go_simp;have hS2:=KF.dr (KF.st (KF.st (KF.st (KF.st (KF.st (KF.st (KF.eH (F:=[Y]) (w:=V2)) (p:=⟨Y,8,E⟩) sm (C x)) (p:=⟨Y,9,E⟩) sm (C u)) (p:=⟨Y,10,E⟩) sm (I J a)) (p:=⟨Y,11,E⟩) sm (I J b)) (p:=⟨Y,12,E⟩) sm (I J t)) (p:=⟨Y,13,E⟩) sm (I J m));have hT2:True:=trivial;refine kq hK ?_;refine qd 10 ?_;refine eK 11 λKQ hK=>?_;go_simp;have hS3:=KF.dr (KF.st (KF.st (KF.st (KF.st (KF.st (KF.st (KF.st (KF.eH (F:=[Y]) (w:=V2)) (p:=⟨Y,8,E⟩) sm (C x)) (p:=⟨Y,9,E⟩) sm (C u)) (p:=⟨Y,10,E⟩) sm (I J a)) (p:=⟨Y,11,E⟩) sm (I J b)) (p:=⟨Y,12,E⟩) sm (I J t)) (p:=⟨Y,13,E⟩) sm (I J m)) (p:=⟨Y,14,E⟩) sm ax);have hT3:True:=trivial;refine kq hK ?_;refine iU ?_;have k3:Bk ((((((((V2.setCell ⟨Y,8,E⟩ (C x)).setCell ⟨Y,9,E⟩ (C u)).setCell ⟨Y,10,E⟩ (I J a)).setCell ⟨Y,11,E⟩ (I J b)).setCell ⟨Y,12,E⟩ (I J t)).setCell ⟨Y,13,E⟩ (I J m)).setCell ⟨Y,14,E⟩ ax).drew) Y 121 #[I J 4,av,av,ax,ax,av,av,ax,C x,C u,I J a,I J b,I J t,I J m,ax]:=Bk.dr (Bk.put (Bk.put (Bk.put (Bk.put (Bk.put (Bk.put (Bk.put HYB 8 (C x)) 9 (C u)) 10 (I J a)) 11 (I J b)) 12 (I J t)) 13 (I J m)) 14 ax);have l3:=Bl.dr (Bl.st (Bl.st (Bl.st (Bl.st (Bl.st (Bl.st (Bl.st hb2 (p:=⟨Y,8,E⟩) (bn hY.symm) (C x)) (p:=⟨Y,9,E⟩) (bn hY.symm) (C u)) (p:=⟨Y,10,E⟩) (bn hY.symm) (I J a)) (p:=⟨Y,11,E⟩) (bn hY.symm) (I J b)) (p:=⟨Y,12,E⟩) (bn hY.symm) (I J t)) (p:=⟨Y,13,E⟩) (bn hY.symm) (I J m)) (p:=⟨Y,14,E⟩) (bn hY.symm) ax);generalize (((((((V2.setCell ⟨Y,8,E⟩ (C x)).setCell ⟨Y,9,E⟩ (C u)).setCell ⟨Y,10,E⟩ (I J a)).setCell ⟨Y,11,E⟩ (I J b)).setCell ⟨Y,12,E⟩ (I J t)).setCell ⟨Y,13,E⟩ (I J m)).setCell ⟨Y,14,E⟩ ax).drew=V3 at k3 l3 ⊢;clear hbY;obtain⟨y0,y1,y2,y3,y4,y5,y6,y7,y8,y9,y10,y11,y12,y13,y14⟩:=JD k3;obtain⟨X3,L3⟩:=eN (Bl.bl l3 HX) (HB.ca l3);obtain⟨x0,x1,x2,x3,x4,x5,x6,x7,x8,x9,x10,x11,x12,x13,x14⟩:=JD X3;have xf:=λj=>Bk.fr X3 j
 go_wp2_with fail
 have hA1:=HAw.out;exact rE
theorem YG (x u)(t:Int)(w):aai 190 #[.agg #[I J 5,av,av,ax,ax,av,av,ax,C x,C u,av,av,I J t,av,ax]] w (.agg #[I J 5,av,av,ax,ax,av,av,ax,C x,C u,av,av,I J t,av,ax]):=by
 obtain⟨A,V0,hA,hV0,BA,BX,HB,HAw,SV⟩:=lj w #[I J 5,av,av,ax,ax,av,av,ax,C x,C u,av,av,I J t,av,ax] 121 #[av,av,av,ax,ax,av,av,ax,ax,ax,av,av,av,av,ax] 121;obtain⟨a0,a1,a2,a3,a4,a5,a6,a7,a8,a9,sG,uB,a12,sQ,sP⟩:=mE BA;obtain⟨x0,x1,x2,x3,x4,x5,x6,x7,x8,x9,x10,x11,x12,x13,x14⟩:=mE BX;have HX:=H BX;have hb0:=br V0
 go_enter func190,ntmps190
 go_upto_region 1 with fail
 rw[<-hV0,<-hA];clear hV0 hA
 go_upto_region 2 with fail
 obtain⟨V2,Y,hV2,hY,BY,LV2⟩:=iC V0 #[I J 5,av,av,ax,ax,av,av,ax,ax,ax,av,av,av,av,ax] 121;rw[<-hV2,<-hY];clear hV2;replace hY:=H hY;obtain⟨y0,y1,y2,y3,y4,y5,y6,y7,y8,y9,y10,y11,y12,y13,y14⟩:=mE BY;have HYB:=H BY;have hb2:Bl V0 V2:=LV2.out;have yf:=λj=>Bk.fr HYB j;have hbY:=br V2
 go_upto_region 11 with fail
 have k3:Bk ((((((V2.setCell ⟨Y,8,E⟩ (C x)).setCell ⟨Y,9,E⟩ (C u)).setCell ⟨Y,10,E⟩ av).setCell ⟨Y,11,E⟩ av).setCell ⟨Y,12,E⟩ (I J t))) Y 121 #[I J 5,av,av,ax,ax,av,av,ax,C x,C u,av,av,I J t,av,ax]:=Bk.put (Bk.put (Bk.put (Bk.put (Bk.put HYB 8 (C x)) 9 (C u)) 10 av) 11 av) 12 (I J t);have l3:=Bl.st (Bl.st (Bl.st (Bl.st (Bl.st hb2 (p:=⟨Y,8,E⟩) (bn hY.symm) (C x)) (p:=⟨Y,9,E⟩) (bn hY.symm) (C u)) (p:=⟨Y,10,E⟩) (bn hY.symm) av) (p:=⟨Y,11,E⟩) (bn hY.symm) av) (p:=⟨Y,12,E⟩) (bn hY.symm) (I J t);generalize (((((V2.setCell ⟨Y,8,E⟩ (C x)).setCell ⟨Y,9,E⟩ (C u)).setCell ⟨Y,10,E⟩ av).setCell ⟨Y,11,E⟩ av).setCell ⟨Y,12,E⟩ (I J t))=V3 at k3 l3 ⊢;clear hbY;obtain⟨y0,y1,y2,y3,y4,y5,y6,y7,y8,y9,y10,y11,y12,y13,y14⟩:=JD k3;obtain⟨X3,L3⟩:=eN (Bl.bl l3 HX) (HB.ca l3);obtain⟨x0,x1,x2,x3,x4,x5,x6,x7,x8,x9,x10,x11,x12,x13,x14⟩:=JD X3;have xf:=λj=>Bk.fr X3 j
 go_wp2_with fail
 have hA0:=HAw.out;exact rE
theorem gA {x}(h:gD x=Q):x.size<=12:=by
 unfold gD at h;simp only[aM,aN] at h;exact h.2.2
theorem Ea:gD ⟨#[]⟩=z:=dc
theorem GG:(∀ (k t:Int) (u o:ay) (n st:Int) (w:World) (h:fL ⟨k,t,u,o,n,st⟩=Q),aai 117 #[.agg #[av,I J k,I J t,C u,C o,I J n,I J st,ax,ax,ax,av,av,av,av,ax]] w (.bool Q))/\
 (∀ (w:World),aai 117 #[.agg #[I J 1,av,av,ax,ax,av,av,ax,ax,ax,av,av,av,av,ax]] w (.bool Q))/\
 (∀ (u:ay) (w:World) (h:gD u=Q),aai 117 #[.agg #[I J 3,av,av,ax,ax,av,av,C u,ax,ax,av,av,av,av,ax]] w (.bool Q)):=by
 refine⟨?_,?_,?_⟩;intro k t u o n st w h;rotate_left;intro w;rotate_left;intro u w h;rotate_left
 all_goals
  have PR:=H (λW=>tV ⟨#[]⟩ ⟨#[]⟩ W dc dc);rw[Ea] at PR
 have hn:=jC h;have RT:=H (λW=>pE ⟨k,t,u,o,n,st⟩ W om om (.inl h));rw[h] at RT;unfold Ev.v Ev.cells at RT;clear h hn;have ON:=H (λW=>GH.1 k t u o n st W);obtain⟨A,V0,hA,hV0,BA,HB,HAw,SV⟩:=gC w #[av,I J k,I J t,C u,C o,I J n,I J st,ax,ax,ax,av,av,av,av,ax] 121;rotate_left;have ON:=H (λW=>GH.2.1 W);obtain⟨A,V0,hA,hV0,BA,HB,HAw,SV⟩:=gC w #[I J 1,av,av,ax,ax,av,av,ax,ax,ax,av,av,av,av,ax] 121;rotate_left;have NR:=H (λW=>kj u W (by have:=gA h;omega));rw[h] at NR;clear h;have ON:=H (λW=>GH.2.2 u W);obtain⟨A,V0,hA,hV0,BA,HB,HAw,SV⟩:=gC w #[I J 3,av,av,ax,ax,av,av,C u,ax,ax,av,av,av,av,ax] 121;rotate_left
 all_goals
  obtain⟨a0,a1,a2,a3,a4,a5,a6,a7,a8,a9,sG,uB,a12,sQ,sP⟩:=mE BA;have hbc:=br V0
  go_enter func117,ntmps117
  go_upto_region 1 with fail
  rw[<-hV0,<-hA];clear hV0 hA
 focus
  go_upto_region 15 with(first | (go_at_call 186;refine qx (PR _) λw1 hbn=>?_;replace hbc:=Bl.ca hbc hbn;clear hbn) | (go_at_call 188;refine qx (RT _) λw1 hbn=>?_;replace hbc:=Bl.ca hbc hbn;clear hbn))
 rotate_left
 focus
  go_upto_region 15 with(first | (go_at_call 186;refine qx (PR _) λw1 hbn=>?_;replace hbc:=Bl.ca hbc hbn;clear hbn))
 rotate_left
 focus
  go_upto_region 15 with(first | (go_at_call 186;refine qx (PR _) λw1 hbn=>?_;replace hbc:=Bl.ca hbc hbn;clear hbn) | (go_at_call 23;refine QS (NR _) ?_))
 rotate_left
 all_goals
  go_region_held3 (λw'=>Bl V0 w') (exact n7) (first | (go_at_call 190;refine qx (ON _) λw5 hb5=>?_))
  all_goals
   go_wp2_with fail
   go_ret;exact⟨D,HB.ca (by first | assumption | exact Bl.ca ms ms)⟩
theorem Wh (x u)(a b t m:Int)(w)(hx:gD x=Q)(hu:gD u=Q)(ha:fQ a=Q)(hb:fQ b=Q)(ht:fQ t=Q)(hm:1<=m/\m<=100)(hg:Gb w):aai 117 #[.agg #[I J 4,av,av,ax,ax,av,av,ax,C x,C u,I J a,I J b,I J t,I J m,ax]] w (.bool Q):=by
 have PR:=H (λW=>tV x u W abd aaT);rw[hx,hu] at PR;clear hx hu;have TA:=H (λW=>tF a W);rw[ha] at TA;have TB:=H (λW=>tF b W);rw[hb] at TB;have TT:=H (λW=>tF t W);rw[ht] at TT;have CU:=H (λW (hb:Bl w W)=>Qx W (hg.below hb (aB _)));have i1:decide (m≥1)=Q:=aF hm.1;have i2:decide (m<=100)=Q:=aF hm.2;clear hm hg ha hb ht;have ON:=H (λW=>YH x u a b t m W);obtain⟨A,V0,hA,hV0,BA,HB,HAw,SV⟩:=gC w #[I J 4,av,av,ax,ax,av,av,ax,C x,C u,I J a,I J b,I J t,I J m,ax] 121;obtain⟨a0,a1,a2,a3,a4,a5,a6,a7,a8,a9,sG,uB,a12,sQ,sP⟩:=mE BA;have hbc:=br V0
 go_enter func117,ntmps117
 go_upto_region 1 with fail
 rw[<-hV0,<-hA];clear hV0 hA
 go_upto_region 15 with(first | (go_at_call 186;with_reducible refine qx (PR.out _) λw1 hbn=>?_;replace hbc:=Bl.ca hbc hbn;clear hbn) | (go_at_call 187;with_reducible refine QS (TA.out _) ?_) | (go_at_call 187;with_reducible refine QS (TB.out _) ?_) | (go_at_call 187;with_reducible refine QS (TT.out _) ?_) | (go_at_call 189;with_reducible refine qx (CU.out _ (HB.out.ca hbc)) λw1 hbn=>?_;replace hbc:=Bl.ca hbc hbn;clear hbn))
 exact ri
theorem Wg (x u)(t:Int)(w)(hx:gD x=Q)(hu:gD u=Q)(ht:fQ t=Q):aai 117 #[.agg #[I J 5,av,av,ax,ax,av,av,ax,C x,C u,av,av,I J t,av,ax]] w (.bool Q):=by
 have PR:=H (λW=>tV x u W abd aaT);rw[hx,hu] at PR;clear hx hu;have TT:=H (λW=>tF t W);rw[ht] at TT;clear ht;have ON:=H (λW=>YG x u t W);obtain⟨A,V0,hA,hV0,BA,HB,HAw,SV⟩:=gC w #[I J 5,av,av,ax,ax,av,av,ax,C x,C u,av,av,I J t,av,ax] 121;obtain⟨a0,a1,a2,a3,a4,a5,a6,a7,a8,a9,sG,uB,a12,sQ,sP⟩:=mE BA;have hbc:=br V0
 go_enter func117,ntmps117
 go_upto_region 1 with fail
 rw[<-hV0,<-hA];clear hV0 hA
 go_upto_region 15 with(first | (go_at_call 186;refine qx (PR _) λw1 hbn=>?_;replace hbc:=Bl.ca hbc hbn;clear hbn) | (go_at_call 187;refine QS (TT _) ?_))
 exact ri
theorem QT (w):Calls prog 52 #[ax] w λe w'=>e= .returned (C gE)/\w=w':=by
 go_enter func52,ntmps52
 exact gN
theorem yy (n:Int)(V W)(hg:Gb V)(hW:Bl V W):Calls prog 51 #[I J n] W λe w'=>e= .returned (C (eD n))/\Bl V w':=
 (mD n W (hg.below hW (aB _))).mono λ_ _ h=>⟨h.1,hW.ca h.2⟩
theorem lL{cs:Array Value}(F:List ay)(h:W.heap[g]?=G (.cells cs 9))(hc:cs=(F.map Value.string).toArray)(hn:n=F.length)(hl:F.length<=1000):eO W (Z (G ⟨g,0,E⟩) n n) F:=
 AZ (ki F h hc hn hl (aD g))
theorem Ib{v}{F}(h:eO w v F)(hne:F≠[]):∃ A c,v= Z A F.length c/\Sl w 1 A F.length c (F.flatMap qc):=by
 obtain⟨A,c,rfl,h2⟩:=h;obtain⟨g,off,rfl,hg,hn,hc⟩:=h2 hne;refine⟨_,_,D,⟨by rw[nI];simp,λu hu=>?_,λh=>(by cases h),λa ha j u hj=>?_⟩⟩
 ·rw[nI] at hu;obtain⟨x,_,rfl⟩:=bI.1 hu;rfl
 ·injection ha with ha
  rw[nI,el] at hj;cases hF:F[j]? with
  | none=>rw[hF] at hj;cases hj
  | some x=>
   rw[hF] at hj;obtain⟨hlt,rfl⟩:=ab4.1 hF;rw[<-ha,addr_add,hc j hlt];exact hj
theorem VB (k t:Int)(u o:ay)(n st:Int)(w)(h:fL ⟨k,t,u,o,n,st⟩=Q)(hg:Gb w):Calls prog 118 #[.agg #[av,I J k,I J t,C u,C o,I J n,I J st,ax,ax,ax,av,av,av,av,ax]] w λe w'=>∃ v,e= .returned v/\eO w' v (lp::eD k::eD t::lI ⟨k,t,u,o,n,st⟩)/\Bl w w':=by
 obtain⟨zu,zo⟩:=jC h;dsimp only at zu zo;have FA:=λW (hW:Bl w W)=>sF ⟨k,t,u,o,n,st⟩ W (hg.below hW (aB _)) gX ie (.inl h);rw[h] at FA;unfold jM Ev.v Ev.cells at FA;rw[aA h] at FA;replace FA:=H FA;have hfl:=Jd h;have hfs:=ny h;have SP0:=λW (hW:Gb W)=>oW (ph ⟨k,t,u,o,n,st⟩) W hW om;rw[hfl] at SP0;have hln:=pQ ⟨k,t,u,o,n,st⟩;obtain⟨F,hF⟩:=fe (eD (⟨k,t,u,o,n,st⟩:Ev).time::lI ⟨k,t,u,o,n,st⟩);rw[<-hF] at SP0;replace SP0:=H SP0;obtain⟨HNE,HFL,HF⟩:=gi (show F≠[] by rw[hF];simp) (show F.length<=4 by rw[hF];simp;omega) (show [lp,eD k]++F=lp::eD k::eD t::lI ⟨k,t,u,o,n,st⟩ by rw[hF];rfl);clear hfl hfs hln hF zu zo h;obtain⟨A,V0,hA,hV0,BA,HB,HAw,SV⟩:=gC w #[av,I J k,I J t,C u,C o,I J n,I J st,ax,ax,ax,av,av,av,av,ax] 121;obtain⟨a0,a1,a2,a3,a4,a5,a6,a7,a8,a9,sG,uB,a12,sQ,sP⟩:=mE BA;have hbc:=br V0;have HG:=H (hg.below HB (aB _));clear hg
 go_enter func118,ntmps118
 go_upto_region 1 with fail
 rw[<-hV0,<-hA];clear hV0 hA;refine jI (T:=TT) (S:=Bl V0) [4] trivial (Bl.dr Bl.eH) λhT0 hS0=>?_
 try dsimp only at hT0 hS0
 refine qd 0 ?_;refine td 1 ?_;refine eK 2 λKQ hK=>?_;go_simp;refine tq (hK _ _) (hT0.al _) (hS0.al _) (λhT1 hS1=>?_)
 try dsimp only at hT1 hS1
 try simp only[gz,fI]
 refine qd 3 ?_;refine eK 4 λKQ hK=>?_;go_simp;refine fJ (hK _ _) trivial (eI (j:=4) kr kr) (λhT2=>?_)
 try dsimp only at hT2
 try simp only[gz,fI]
 refine iU ?_;obtain⟨V2,an,hV2,hG,BG,LV2⟩:=iC V0 #[ax,ax,av,av,av] 119;rw[<-hV2,<-hG];clear hV2;replace hG:=H hG;obtain⟨g0,g1,g2,g3,g4⟩:=wY BG;have H3:=H LV2;have a0':=a0 V2.drew (Bl.dr H3);have a1':=a1 V2.drew (Bl.dr H3);have a2':=a2 V2.drew (Bl.dr H3);have a3':=a3 V2.drew (Bl.dr H3);have a4':=a4 V2.drew (Bl.dr H3);have a5':=a5 V2.drew (Bl.dr H3);have a6':=a6 V2.drew (Bl.dr H3)
 go_upto_region 5 with(go_at_call 185;refine qx (FA _ (HB.ca (Bl.dr H3))) λw1 hb1=>?_)
 obtain⟨V5,ar,hV5,hQ,BQ,LV5⟩:=iC w1 #[I U (Bt k),C (ph ⟨k,t,u,o,n,st⟩)] 217;rw[<-hV5,<-hQ];clear hV5;replace hQ:=H hQ;obtain⟨q0,q1⟩:=ni BQ;have H5:=H (show Bl V0 V5 from(H3.dr.ca hb1).ca LV5);have HG5:=H (HG.below H5 (aB _));obtain⟨DK,SP⟩:=eN (λW=>yy k V5 W HG5) (λW (hW:Bl V5 W)=>SP0 W (HG5.below hW (aB _)));have b1:∀ W,Bl V5 W->_:=λW hW=>a1 W (H5.ca hW);refine jI (T:=Bl V5) (S:=Bl V5) [] (Bl.dr Bl.eH) (Bl.dr Bl.eH) λhT0 hS0=>?_
 try dsimp only at hT0 hS0
 refine aaa [0,1,2] ?_;refine td 3 ?_;refine qd 6 ?_;refine td 7 ?_;refine eK 4 λKQ hK=>?_;go_simp
 (go_at_call 51;refine qx (DK _ hS0) λw1 hb1=>?_)
 have hT1:=hb1;have hS1:=hT1;refine kq hK ?_;refine ti 5 8 (λKQ hK=>?_) λKQ hK=>?_
 focus
  go_simp;refine jf (hK _ _) (hT1.al _) (λhT2 hA2 hM2=>?_);clear hM2
  try dsimp only at hT2
  have hS2:=hT2
  try simp only[gz,fI]
  refine eK 8 λKQ hK=>?_;go_simp
  (go_at_call 77;refine aaj (SP _ hS2) λv2 w2 hs2 hb2=>?_)
  replace hA2:=Bl.bl hb2 hA2;obtain⟨A2,c2,rfl,hs2b⟩:=Ib hs2 HNE;have hT3:=hS2.ca hb2;have hS3:=hT3;refine kq hK ?_;refine eK 9 λKQ hK=>?_;rw[aA (by rfl)];refine rY (f:=qc) (v:=Z (G ⟨_,0,E⟩) 2 2) (L:=[lp,eD k]) (M:=F) xi _ _ D V5.heap.size D (ki [lp,eD k] (pv hA2 fG) D D sm (by first | exact hb1.size | exact(hb1.ca hb2).size)) D (by first | exact hs2b | exact hs2b.bl (gl _ _)) D (by have:=HFL.out;simp;omega) hS3.size ?_;intro v9 w9 ho9 hb9 _;have hS4:=hb9 V5 D hS3;have hT5:=hS4;have hS5:=hT5;refine kq hK ?_;refine qd 10 ?_;refine iU ?_;have hL:=hS5
 rotate_left 1
 focus
  go_simp
  (go_at_call 77;refine aaj (SP _ hS1) λv2 w2 hs2 hb2=>?_)
  obtain⟨A2,c2,rfl,hs2b⟩:=Ib hs2 HNE;have hT3:=hS1.ca hb2;have hS3:=hT3;refine kq hK ?_;refine eK 5 λKQ hK=>?_;go_simp;refine jf (hK _ _) (hT3.al _) (λhT4 hA4 hM4=>?_);clear hM4
  try dsimp only at hT4
  have hS4:=hT4
  try simp only[gz,fI]
  refine eK 9 λKQ hK=>?_;rw[aA (by rfl)];refine rY (f:=qc) (v:=Z (G ⟨_,0,E⟩) 2 2) (L:=[lp,eD k]) (M:=F) xi _ _ D V5.heap.size D (ki [lp,eD k] (pv hA4 fG) D D sm (by first | exact hb1.size | exact(hb1.ca hb2).size)) D (by first | exact hs2b | exact hs2b.bl (gl _ _)) D (by have:=HFL.out;simp;omega) hS4.size ?_;intro v9 w9 ho9 hb9 _;have hS5:=hb9 V5 D hS4;have hT6:=hS5;have hS6:=hT6;refine kq hK ?_;refine qd 10 ?_;refine iU ?_;have hL:=hS6
 rotate_left 1
 all_goals
  go_wp2_with fail
  go_ret;exact⟨_,D,by rw[<-HF.out];exact AZ ho9.iD,HB.ca (H5.ca hL)⟩
theorem OY:(∀ (w:World),Calls prog 118 #[.agg #[I J 1,av,av,ax,ax,av,av,ax,ax,ax,av,av,av,av,ax]] w λe w'=>∃ v,e= .returned v/\eO w' v ([kg])/\Bl w w')/\
 (∀ (u:ay) (w:World),Calls prog 118 #[.agg #[I J 3,av,av,ax,ax,av,av,C u,ax,ax,av,av,av,av,ax]] w λe w'=>∃ v,e= .returned v/\eO w' v ([iB,u])/\Bl w w'):=by
 refine⟨?_,?_⟩;intro w;rotate_left;intro u w;rotate_left;obtain⟨A,V0,hA,hV0,BA,HB,HAw,SV⟩:=gC w #[I J 1,av,av,ax,ax,av,av,ax,ax,ax,av,av,av,av,ax] 121;rotate_left;obtain⟨A,V0,hA,hV0,BA,HB,HAw,SV⟩:=gC w #[I J 3,av,av,ax,ax,av,av,C u,ax,ax,av,av,av,av,ax] 121;rotate_left
 all_goals
  obtain⟨a0,a1,a2,a3,a4,a5,a6,a7,a8,a9,sG,uB,a12,sQ,sP⟩:=mE BA;have hbc:=br V0
  go_enter func118,ntmps118
  go_upto_region 1 with fail
  rw[<-hV0,<-hA];clear hV0 hA;refine jI (T:=TT) (S:=Bl V0) [4] trivial (Bl.dr Bl.eH) λhT0 hS0=>?_
  try dsimp only at hT0 hS0
  refine qd 0 ?_;refine td 1 ?_;refine eK 2 λKQ hK=>?_;go_simp;refine tq (hK _ _) (hT0.al _) (hS0.al _) (λhT1 hS1=>?_)
  try dsimp only at hT1 hS1
  try simp only[gz,fI]
  refine qd 3 ?_;refine eK 4 λKQ hK=>?_;go_simp;refine fJ (hK _ _) trivial (eI (j:=4) kr kr) (λhT2=>?_)
  try dsimp only at hT2
  try simp only[gz,fI]
  refine iU ?_;obtain⟨V2,an,hV2,hG,BG,LV2⟩:=iC V0 #[ax,ax,av,av,av] 119;rw[<-hV2,<-hG];clear hV2;replace hG:=H hG;obtain⟨g0,g1,g2,g3,g4⟩:=wY BG;have hb3:Bl V0 V2.drew:=Bl.dr LV2
  go_wp2_with fail
  go_ret
 ·exact⟨_,D,lL ([kg]) (eL _ _) D D sm,HB.ca (LV2.dr.al _)⟩
 ·exact⟨_,D,lL ([iB,u]) (eL _ _) D D sm,HB.ca (LV2.dr.al _)⟩
theorem VA (x u)(a b t m:Int)(w)(hg:Gb w):Calls prog 118 #[.agg #[I J 4,av,av,ax,ax,av,av,ax,C x,C u,I J a,I J b,I J t,I J m,ax]] w λe w'=>∃ v,e= .returned v/\eO w' v ([gI,x,u,eD a,eD b,eD t,eD m,gE])/\Bl w w':=by
 obtain⟨A,V0,hA,hV0,BA,HB,HAw,SV⟩:=gC w #[I J 4,av,av,ax,ax,av,av,ax,C x,C u,I J a,I J b,I J t,I J m,ax] 121;obtain⟨a0,a1,a2,a3,a4,a5,a6,a7,a8,a9,sG,uB,a12,sQ,sP⟩:=mE BA;have hbc:=br V0;have HG:=H (hg.below HB (aB _));clear hg
 go_enter func118,ntmps118
 go_upto_region 1 with fail
 rw[<-hV0,<-hA];clear hV0 hA;refine jI (T:=TT) (S:=Bl V0) [4] trivial (Bl.dr Bl.eH) λhT0 hS0=>?_
 try dsimp only at hT0 hS0
 refine qd 0 ?_;refine td 1 ?_;refine eK 2 λKQ hK=>?_;go_simp;refine tq (hK _ _) (hT0.al _) (hS0.al _) (λhT1 hS1=>?_)
 try dsimp only at hT1 hS1
 try simp only[gz,fI]
 refine qd 3 ?_;refine eK 4 λKQ hK=>?_;go_simp;refine fJ (hK _ _) trivial (eI (j:=4) kr kr) (λhT2=>?_)
 try dsimp only at hT2
 try simp only[gz,fI]
 refine iU ?_;obtain⟨V2,an,hV2,hG,BG,LV2⟩:=iC V0 #[C x,C u,I J a,I J b,I J t] 119;rw[<-hV2,<-hG];clear hV2;replace hG:=H hG;obtain⟨g0,g1,g2,g3,g4⟩:=wY BG;have H3:=H LV2;have HG2:=H (HG.below H3 (aB _));replace sQ:=λW (hW:Bl V2 W)=>sQ W (H3.ca hW);replace sP:=λW (hW:Bl V2 W)=>sP W (H3.ca hW);obtain⟨DA,DB,DT,DM⟩:=kB (λW=>yy a V2 W HG2) (λW=>yy b V2 W HG2) (λW=>yy t V2 W HG2) (λW=>yy m V2 W HG2);replace a0:=a0 V2.drew (Bl.dr H3)
 go_upto_region 13 with fail
 refine jI (T:=Bl V2) (S:=Bl V2) [] (Bl.dr (Bl.dr Bl.eH)) (Bl.dr (Bl.dr Bl.eH)) λhT0 hS0=>?_
 try dsimp only at hT0 hS0
 refine aaa [0,1] ?_;refine td 2 ?_;refine aaa [3,4] ?_;refine td 5 ?_;refine aaa [6,7,8] ?_;refine td 9 ?_;refine aaa [11,12,13] ?_;refine td 14 ?_;refine aaa [16,17] ?_;refine td 18 ?_;refine aaa [20,21] ?_;refine td 22 ?_;refine qd 24 ?_;refine td 25 ?_;refine eK 10 λKQ hK=>?_;go_simp
 (go_at_call 51;refine qx (DA _ hS0) λw1 hb1=>?_)
 have hT1:=hb1;have hS1:=hT1;refine kq hK ?_;refine eK 15 λKQ hK=>?_;go_simp
 (go_at_call 51;refine qx (DB _ hS1) λw1 hb1=>?_)
 have hT2:=hb1;have hS2:=hT2;refine kq hK ?_;refine eK 19 λKQ hK=>?_;go_simp
 (go_at_call 51;refine qx (DT _ hS2) λw1 hb1=>?_)
 have hT3:=hb1;have hS3:=hT3;refine kq hK ?_;refine eK 23 λKQ hK=>?_;go_simp
 (go_at_call 51;refine qx (DM _ hS3) λw1 hb1=>?_)
 have hT4:=hb1;have hS4:=hT4;refine kq hK ?_;refine eK 26 λKQ hK=>?_;go_simp
 (go_at_call 52;refine QS (QT _) ?_)
 have hT5:=hS4;have hS5:=hT5;refine kq hK ?_;refine eK 27 λKQ hK=>?_;go_simp;refine jf (hK _ _) (hT5.al _) (λhT6 hA6 hM6=>?_);clear hM6
 try dsimp only at hT6
 have hS6:=hT6
 try simp only[gz,fI]
 refine qd 28 ?_;refine iU ?_;have hL:=hS6
 all_goals
  go_wp2_with fail
  go_ret;exact⟨_,D,lL ([gI,x,u,eD a,eD b,eD t,eD m,gE]) ms D D sm,HB.ca (H3.ca hL)⟩
theorem Vz (x u)(t:Int)(w)(hg:Gb w):Calls prog 118 #[.agg #[I J 5,av,av,ax,ax,av,av,ax,C x,C u,av,av,I J t,av,ax]] w λe w'=>∃ v,e= .returned v/\eO w' v ([iz,x,u,eD t])/\Bl w w':=by
 obtain⟨A,V0,hA,hV0,BA,HB,HAw,SV⟩:=gC w #[I J 5,av,av,ax,ax,av,av,ax,C x,C u,av,av,I J t,av,ax] 121;obtain⟨a0,a1,a2,a3,a4,a5,a6,a7,a8,a9,sG,uB,a12,sQ,sP⟩:=mE BA;have hbc:=br V0;have HG:=H (hg.below HB (aB _));clear hg
 go_enter func118,ntmps118
 go_upto_region 1 with fail
 rw[<-hV0,<-hA];clear hV0 hA;refine jI (T:=TT) (S:=Bl V0) [4] trivial (Bl.dr Bl.eH) λhT0 hS0=>?_
 try dsimp only at hT0 hS0
 refine qd 0 ?_;refine td 1 ?_;refine eK 2 λKQ hK=>?_;go_simp;refine tq (hK _ _) (hT0.al _) (hS0.al _) (λhT1 hS1=>?_)
 try dsimp only at hT1 hS1
 try simp only[gz,fI]
 refine qd 3 ?_;refine eK 4 λKQ hK=>?_;go_simp;refine fJ (hK _ _) trivial (eI (j:=4) kr kr) (λhT2=>?_)
 try dsimp only at hT2
 try simp only[gz,fI]
 refine iU ?_;obtain⟨V2,an,hV2,hG,BG,LV2⟩:=iC V0 #[C x,C u,av,av,I J t] 119;rw[<-hV2,<-hG];clear hV2;replace hG:=H hG;obtain⟨g0,g1,g2,g3,g4⟩:=wY BG;have H3:=H LV2;have HG2:=H (HG.below H3 (aB _));have DT:=H (λW=>yy t V2 W HG2);replace a0:=a0 V2.drew (Bl.dr H3)
 go_upto_region 14 with fail
 refine jI (T:=Bl V2) (S:=Bl V2) [] (Bl.dr (Bl.dr Bl.eH)) (Bl.dr (Bl.dr Bl.eH)) λhT0 hS0=>?_
 try dsimp only at hT0 hS0
 refine aaa [0,1] ?_;refine td 2 ?_;refine aaa [3,4] ?_;refine td 5 ?_;refine aaa [6,7] ?_;refine td 8 ?_;refine eK 9 λKQ hK=>?_;go_simp
 (go_at_call 51;refine qx (DT _ hS0) λw1 hb1=>?_)
 have hT1:=hb1;have hS1:=hT1;refine kq hK ?_;refine eK 10 λKQ hK=>?_;go_simp;refine jf (hK _ _) (hT1.al _) (λhT2 hA2 hM2=>?_);clear hM2
 try dsimp only at hT2
 have hS2:=hT2
 try simp only[gz,fI]
 refine qd 11 ?_;refine iU ?_;have hL:=hS2
 all_goals
  go_wp2_with fail
  go_ret;exact⟨_,D,lL ([iz,x,u,eD t]) ms D D sm,HB.ca (H3.ca hL)⟩
end Tp
namespace Tp
open Go Go.RowKit Go.Lib CrcM FrM
theorem ot:(prog.info? 78).map (·.size)=G 2:=kr
theorem Ix (n:Int)(h0:0<=n)(h1:n<=1099511627776)(V W)(hW:Bl V W):Calls prog 49 #[I J n] W λe w'=>e= .returned (C (eD n))/\Bl V w':=by
 obtain⟨m,rfl⟩:∃ m:Nat,n=m:=⟨n.toNat,om⟩;exact(NQ m W om).mono λe w' ⟨k1,k2⟩=>⟨k1,hW.ca k2⟩
theorem Qd {e}(h:fL e=Q):(0<=e.time/\e.time<=1099511627775)/\(0<=e.n/\e.n<=1099511627775)/\(0<=e.st/\e.st<=1099511627775):=by
 unfold fL at h
 repeat' (split at h)
 all_goals first | cases h | (simp only[aM,aN,iP] at h;omega)
theorem yh:(∀ (t:Int) (u o:ay) (n s:Int) (w:World) (h:fL ⟨1,t,u,o,n,s⟩=Q),aai 32 #[.agg #[I J 1,I J t,C u,C o,I J n,I J s]] w (.tuple #[.agg #[I U 111,C (ph ⟨1,t,u,o,n,s⟩)],.bool Q]))/\
 (∀ (t:Int) (u o:ay) (n s:Int) (w:World) (h:fL ⟨2,t,u,o,n,s⟩=Q),aai 32 #[.agg #[I J 2,I J t,C u,C o,I J n,I J s]] w (.tuple #[.agg #[I U 99,C (ph ⟨2,t,u,o,n,s⟩)],.bool Q]))/\
 (∀ (t:Int) (u o:ay) (n s:Int) (w:World) (h:fL ⟨3,t,u,o,n,s⟩=Q),aai 32 #[.agg #[I J 3,I J t,C u,C o,I J n,I J s]] w (.tuple #[.agg #[I U 120,C (ph ⟨3,t,u,o,n,s⟩)],.bool Q]))/\
 (∀ (t:Int) (u o:ay) (n s:Int) (w:World) (h:fL ⟨4,t,u,o,n,s⟩=Q),aai 32 #[.agg #[I J 4,I J t,C u,C o,I J n,I J s]] w (.tuple #[.agg #[I U 103,C (ph ⟨4,t,u,o,n,s⟩)],.bool Q]))/\
 (∀ (t:Int) (u o:ay) (n s:Int) (w:World) (h:fL ⟨5,t,u,o,n,s⟩=Q),aai 32 #[.agg #[I J 5,I J t,C u,C o,I J n,I J s]] w (.tuple #[.agg #[I U 114,C (ph ⟨5,t,u,o,n,s⟩)],.bool Q]))/\
 (∀ (t:Int) (u o:ay) (n s:Int) (w:World) (h:fL ⟨6,t,u,o,n,s⟩=Q),aai 32 #[.agg #[I J 6,I J t,C u,C o,I J n,I J s]] w (.tuple #[.agg #[I U 104,C (ph ⟨6,t,u,o,n,s⟩)],.bool Q]))/\
 (∀ (t:Int) (u o:ay) (n s:Int) (w:World) (h:fL ⟨7,t,u,o,n,s⟩=Q),aai 32 #[.agg #[I J 7,I J t,C u,C o,I J n,I J s]] w (.tuple #[.agg #[I U 101,C (ph ⟨7,t,u,o,n,s⟩)],.bool Q])):=by
 refine⟨?_,?_,?_,?_,?_,?_,?_⟩
 all_goals intro t u o n s w h
 all_goals
  obtain⟨⟨t0,t1⟩,⟨n0,n1⟩,⟨s0,s1⟩⟩:=Qd h;obtain⟨zu,zo⟩:=jC h;dsimp only at t0 t1 n0 n1 s0 s1 zu zo
 have RR:=λW=>gF ⟨1,t,u,o,n,s⟩ W gX ie;rotate_left;have RR:=λW=>gF ⟨2,t,u,o,n,s⟩ W gX ie;rotate_left;have RR:=λW=>gF ⟨3,t,u,o,n,s⟩ W gX ie;rotate_left;have RR:=λW=>gF ⟨4,t,u,o,n,s⟩ W gX ie;rotate_left;have RR:=λW=>gF ⟨5,t,u,o,n,s⟩ W gX ie;rotate_left;have RR:=λW=>gF ⟨6,t,u,o,n,s⟩ W gX ie;rotate_left;have RR:=λW=>gF ⟨7,t,u,o,n,s⟩ W gX ie;rotate_left
 all_goals
  rw[h] at RR;replace RR:=H RR;obtain⟨dt,hdt⟩:=fe (eD t);obtain⟨dn,hdn⟩:=fe (eD n);obtain⟨ds,hds⟩:=fe (eD s)
 obtain⟨HF,LN⟩:=eN (show ph ⟨1,t,u,o,n,s⟩=gR [dt,u,dn,ds] by(try rw[hdt]);(try rw[hdn]);(try rw[hds]);rfl) (λW g (hB:Bk W g 9 #[C dt,C u,C dn,C ds])=>kI [dt,u,dn,ds] (Z (G ⟨g,0,E⟩) 4 4) g W (ki [dt,u,dn,ds] hB D D sm (aB _)) sm
  (λx hx=>by have h1:=iX h x (by rw[show eD (⟨1,t,u,o,n,s⟩:Ev).time::lI ⟨1,t,u,o,n,s⟩=[dt,u,dn,ds] by(try rw[hdt]);(try rw[hdn]);(try rw[hds]);rfl];exact hx);omega)
  (by have h1:=(gV h).1;rw[show eD (⟨1,t,u,o,n,s⟩:Ev).time::lI ⟨1,t,u,o,n,s⟩=[dt,u,dn,ds] by(try rw[hdt]);(try rw[hdn]);(try rw[hds]);rfl] at h1;exact h1))
 obtain⟨A,V0,hA,hV0,BA,BY,HB,HAw,SV⟩:=lj w #[I J 1,I J t,C u,C o,I J n,I J s] 26 #[I U 0,ax] 78;rotate_left;obtain⟨HF,LN⟩:=eN (show ph ⟨2,t,u,o,n,s⟩=gR [dt,u,dn,ds] by(try rw[hdt]);(try rw[hdn]);(try rw[hds]);rfl) (λW g (hB:Bk W g 9 #[C dt,C u,C dn,C ds])=>kI [dt,u,dn,ds] (Z (G ⟨g,0,E⟩) 4 4) g W (ki [dt,u,dn,ds] hB D D sm (aB _)) sm
  (λx hx=>by have h1:=iX h x (by rw[show eD (⟨2,t,u,o,n,s⟩:Ev).time::lI ⟨2,t,u,o,n,s⟩=[dt,u,dn,ds] by(try rw[hdt]);(try rw[hdn]);(try rw[hds]);rfl];exact hx);omega)
  (by have h1:=(gV h).1;rw[show eD (⟨2,t,u,o,n,s⟩:Ev).time::lI ⟨2,t,u,o,n,s⟩=[dt,u,dn,ds] by(try rw[hdt]);(try rw[hdn]);(try rw[hds]);rfl] at h1;exact h1))
 obtain⟨A,V0,hA,hV0,BA,BY,HB,HAw,SV⟩:=lj w #[I J 2,I J t,C u,C o,I J n,I J s] 26 #[I U 0,ax] 78;rotate_left;obtain⟨HF,LN⟩:=eN (show ph ⟨3,t,u,o,n,s⟩=gR [dt,u,dn] by(try rw[hdt]);(try rw[hdn]);(try rw[hds]);rfl) (λW g (hB:Bk W g 9 #[C dt,C u,C dn])=>kI [dt,u,dn] (Z (G ⟨g,0,E⟩) 3 3) g W (ki [dt,u,dn] hB D D sm (aB _)) sm
  (λx hx=>by have h1:=iX h x (by rw[show eD (⟨3,t,u,o,n,s⟩:Ev).time::lI ⟨3,t,u,o,n,s⟩=[dt,u,dn] by(try rw[hdt]);(try rw[hdn]);(try rw[hds]);rfl];exact hx);omega)
  (by have h1:=(gV h).1;rw[show eD (⟨3,t,u,o,n,s⟩:Ev).time::lI ⟨3,t,u,o,n,s⟩=[dt,u,dn] by(try rw[hdt]);(try rw[hdn]);(try rw[hds]);rfl] at h1;exact h1))
 obtain⟨A,V0,hA,hV0,BA,BY,HB,HAw,SV⟩:=lj w #[I J 3,I J t,C u,C o,I J n,I J s] 26 #[I U 0,ax] 78;rotate_left;obtain⟨HF,LN⟩:=eN (show ph ⟨4,t,u,o,n,s⟩=gR [dt,u,o] by(try rw[hdt]);(try rw[hdn]);(try rw[hds]);rfl) (λW g (hB:Bk W g 9 #[C dt,C u,C o])=>kI [dt,u,o] (Z (G ⟨g,0,E⟩) 3 3) g W (ki [dt,u,o] hB D D sm (aB _)) sm
  (λx hx=>by have h1:=iX h x (by rw[show eD (⟨4,t,u,o,n,s⟩:Ev).time::lI ⟨4,t,u,o,n,s⟩=[dt,u,o] by(try rw[hdt]);(try rw[hdn]);(try rw[hds]);rfl];exact hx);omega)
  (by have h1:=(gV h).1;rw[show eD (⟨4,t,u,o,n,s⟩:Ev).time::lI ⟨4,t,u,o,n,s⟩=[dt,u,o] by(try rw[hdt]);(try rw[hdn]);(try rw[hds]);rfl] at h1;exact h1))
 obtain⟨A,V0,hA,hV0,BA,BY,HB,HAw,SV⟩:=lj w #[I J 4,I J t,C u,C o,I J n,I J s] 26 #[I U 0,ax] 78;rotate_left;obtain⟨HF,LN⟩:=eN (show ph ⟨5,t,u,o,n,s⟩=gR [dt,u,o] by(try rw[hdt]);(try rw[hdn]);(try rw[hds]);rfl) (λW g (hB:Bk W g 9 #[C dt,C u,C o])=>kI [dt,u,o] (Z (G ⟨g,0,E⟩) 3 3) g W (ki [dt,u,o] hB D D sm (aB _)) sm
  (λx hx=>by have h1:=iX h x (by rw[show eD (⟨5,t,u,o,n,s⟩:Ev).time::lI ⟨5,t,u,o,n,s⟩=[dt,u,o] by(try rw[hdt]);(try rw[hdn]);(try rw[hds]);rfl];exact hx);omega)
  (by have h1:=(gV h).1;rw[show eD (⟨5,t,u,o,n,s⟩:Ev).time::lI ⟨5,t,u,o,n,s⟩=[dt,u,o] by(try rw[hdt]);(try rw[hdn]);(try rw[hds]);rfl] at h1;exact h1))
 obtain⟨A,V0,hA,hV0,BA,BY,HB,HAw,SV⟩:=lj w #[I J 5,I J t,C u,C o,I J n,I J s] 26 #[I U 0,ax] 78;rotate_left;obtain⟨HF,LN⟩:=eN (show ph ⟨6,t,u,o,n,s⟩=gR [dt,dn] by(try rw[hdt]);(try rw[hdn]);(try rw[hds]);rfl) (λW g (hB:Bk W g 9 #[C dt,C dn])=>kI [dt,dn] (Z (G ⟨g,0,E⟩) 2 2) g W (ki [dt,dn] hB D D sm (aB _)) sm
  (λx hx=>by have h1:=iX h x (by rw[show eD (⟨6,t,u,o,n,s⟩:Ev).time::lI ⟨6,t,u,o,n,s⟩=[dt,dn] by(try rw[hdt]);(try rw[hdn]);(try rw[hds]);rfl];exact hx);omega)
  (by have h1:=(gV h).1;rw[show eD (⟨6,t,u,o,n,s⟩:Ev).time::lI ⟨6,t,u,o,n,s⟩=[dt,dn] by(try rw[hdt]);(try rw[hdn]);(try rw[hds]);rfl] at h1;exact h1))
 obtain⟨A,V0,hA,hV0,BA,BY,HB,HAw,SV⟩:=lj w #[I J 6,I J t,C u,C o,I J n,I J s] 26 #[I U 0,ax] 78;rotate_left;obtain⟨HF,LN⟩:=eN (show ph ⟨7,t,u,o,n,s⟩=gR [dt,u] by(try rw[hdt]);(try rw[hdn]);(try rw[hds]);rfl) (λW g (hB:Bk W g 9 #[C dt,C u])=>kI [dt,u] (Z (G ⟨g,0,E⟩) 2 2) g W (ki [dt,u] hB D D sm (aB _)) sm
  (λx hx=>by have h1:=iX h x (by rw[show eD (⟨7,t,u,o,n,s⟩:Ev).time::lI ⟨7,t,u,o,n,s⟩=[dt,u] by(try rw[hdt]);(try rw[hdn]);(try rw[hds]);rfl];exact hx);omega)
  (by have h1:=(gV h).1;rw[show eD (⟨7,t,u,o,n,s⟩:Ev).time::lI ⟨7,t,u,o,n,s⟩=[dt,u] by(try rw[hdt]);(try rw[hdn]);(try rw[hds]);rfl] at h1;exact h1))
 obtain⟨A,V0,hA,hV0,BA,BY,HB,HAw,SV⟩:=lj w #[I J 7,I J t,C u,C o,I J n,I J s] 26 #[I U 0,ax] 78;rotate_left
 all_goals
  obtain⟨a0,a1,a2,a3,a4,a5⟩:=jg BA;obtain⟨y0,y1⟩:=ni BY;have DT:=λW (hW:Bl V0 W)=>Ix t t0 om V0 W hW;have DN:=λW (hW:Bl V0 W)=>Ix n n0 om V0 W hW;have DS:=λW (hW:Bl V0 W)=>Ix s s0 om V0 W hW;rw[<-hdt] at DT;rw[<-hdn] at DN;rw[<-hds] at DS;replace DT:=H DT;replace DN:=H DN;replace DS:=H DS;rw[HF.out];have HY:=H BY;have hb0:=br V0;clear hdt hdn hds h zu zo;unfold Ev.v Ev.cells at RR
  go_enter func32,ntmps32
  go_upto_region 1 with fail
  rw[<-hV0,<-hA];clear hV0 hA
  go_upto_region 30 with(first | (go_at_call 20;with_reducible refine qx (RR.out _) λw1 hb1=>?_) | (go_at_call 49;with_reducible refine qx (DS.out _ hb3) λw4 hb4=>?_) | (go_at_call 49;with_reducible refine qx (DN.out _ hb2) λw3 hb3=>?_) | (go_at_call 49;with_reducible refine qx (DT.out _ hb1) λw2 hb2=>?_))
 obtain⟨V5,an,hV5,hG,BG,LV5⟩:=iC w4 #[C dt,C u,C dn,C ds] 9;rotate_left;obtain⟨V5,an,hV5,hG,BG,LV5⟩:=iC w4 #[C dt,C u,C dn,C ds] 9;rotate_left;obtain⟨V5,an,hV5,hG,BG,LV5⟩:=iC w4 #[C dt,C u,C dn] 9;rotate_left;obtain⟨V5,an,hV5,hG,BG,LV5⟩:=iC w4 #[C dt,C u,C o] 9;rotate_left;obtain⟨V5,an,hV5,hG,BG,LV5⟩:=iC w4 #[C dt,C u,C o] 9;rotate_left;obtain⟨V5,an,hV5,hG,BG,LV5⟩:=iC w4 #[C dt,C dn] 9;rotate_left;obtain⟨V5,an,hV5,hG,BG,LV5⟩:=iC w4 #[C dt,C u] 9;rotate_left
 all_goals
  rw[<-hV5,<-hG];clear hV5;replace hG:=H hG
 obtain⟨g0,g1,g2,g3⟩:=pw BG;rotate_left;obtain⟨g0,g1,g2,g3⟩:=pw BG;rotate_left;obtain⟨g0,g1,g2⟩:=ZM BG;rotate_left;obtain⟨g0,g1,g2⟩:=ZM BG;rotate_left;obtain⟨g0,g1,g2⟩:=ZM BG;rotate_left;obtain⟨g0,g1⟩:=ni BG;rotate_left;obtain⟨g0,g1⟩:=ni BG;rotate_left
 all_goals
  have hb5:Bl V0 V5:=hb4.ca LV5;obtain⟨HB5,LN5⟩:=eN hb5 (LN V5 an BG);obtain⟨z0,z1⟩:=Zc (hb5.bl HY);have yf:∀ j,V5.frozen? ⟨A+1,j,E⟩=z:=λj=>Bk.fr (hb5.bl HY) j
  go_wp2_with (go_at_call 34;refine QS LN5 ?_)
 ·exact aa1 (eM (p:=2) (a:=3) D _ _ _ _ _ _ _ D (show Bk _ (A+1) _ #[I U 111,C (gR [dt,u,dn,ds])] from Bk.set (Bk.set (HB5.bl HY) 0 _) 1 _) underlying78 D ot) D ⟨D,((HB.ca HB5).st fx _).st fx _⟩
 ·exact aa1 (eM (p:=2) (a:=3) D _ _ _ _ _ _ _ D (show Bk _ (A+1) _ #[I U 99,C (gR [dt,u,dn,ds])] from Bk.set (Bk.set (HB5.bl HY) 0 _) 1 _) underlying78 D ot) D ⟨D,((HB.ca HB5).st fx _).st fx _⟩
 ·exact aa1 (eM (p:=2) (a:=3) D _ _ _ _ _ _ _ D (show Bk _ (A+1) _ #[I U 120,C (gR [dt,u,dn])] from Bk.set (Bk.set (HB5.bl HY) 0 _) 1 _) underlying78 D ot) D ⟨D,((HB.ca HB5).st fx _).st fx _⟩
 ·exact aa1 (eM (p:=2) (a:=3) D _ _ _ _ _ _ _ D (show Bk _ (A+1) _ #[I U 103,C (gR [dt,u,o])] from Bk.set (Bk.set (HB5.bl HY) 0 _) 1 _) underlying78 D ot) D ⟨D,((HB.ca HB5).st fx _).st fx _⟩
 ·exact aa1 (eM (p:=2) (a:=3) D _ _ _ _ _ _ _ D (show Bk _ (A+1) _ #[I U 114,C (gR [dt,u,o])] from Bk.set (Bk.set (HB5.bl HY) 0 _) 1 _) underlying78 D ot) D ⟨D,((HB.ca HB5).st fx _).st fx _⟩
 ·exact aa1 (eM (p:=2) (a:=3) D _ _ _ _ _ _ _ D (show Bk _ (A+1) _ #[I U 104,C (gR [dt,dn])] from Bk.set (Bk.set (HB5.bl HY) 0 _) 1 _) underlying78 D ot) D ⟨D,((HB.ca HB5).st fx _).st fx _⟩
 ·exact aa1 (eM (p:=2) (a:=3) D _ _ _ _ _ _ _ D (show Bk _ (A+1) _ #[I U 101,C (gR [dt,u])] from Bk.set (Bk.set (HB5.bl HY) 0 _) 1 _) underlying78 D ot) D ⟨D,((HB.ca HB5).st fx _).st fx _⟩
theorem Gq (e)(w:World)(h:fL e=Q):
 aai 32 #[e.v] w (.tuple #[.agg #[I U (Bt e.kind),C (ph e)],.bool Q]):=by
 have hk:=kD h;obtain⟨k,t,u,o,n,s⟩:=e;simp only at hk;obtain rfl | rfl | rfl | rfl | rfl | rfl | rfl:k=1∨k=2∨k=3∨k=4∨k=5∨k=6∨k=7:=om
 ·exact yh.1 t u o n s w h
 ·exact yh.2.1 t u o n s w h
 ·exact yh.2.2.1 t u o n s w h
 ·exact yh.2.2.2.1 t u o n s w h
 ·exact yh.2.2.2.2.1 t u o n s w h
 ·exact yh.2.2.2.2.2.1 t u o n s w h
 ·exact yh.2.2.2.2.2.2 t u o n s w h
theorem TN:(prog.info? 58).map (·.size)=G 4:=kr
theorem Bk.f15(h:Bk W A t #[c0,c1,c2,c3,c4,c5,c6,c7,c8,c9,c10,c11,c12,c13,c14]):W.cell? ⟨A,0,E⟩=G c0/\W.cell? ⟨A,1,E⟩=G c1/\W.cell? ⟨A,2,E⟩=G c2/\W.cell? ⟨A,3,E⟩=G c3/\W.cell? ⟨A,4,E⟩=G c4/\W.cell? ⟨A,5,E⟩=G c5/\W.cell? ⟨A,6,E⟩=G c6/\W.cell? ⟨A,7,E⟩=G c7/\W.cell? ⟨A,8,E⟩=G c8/\W.cell? ⟨A,9,E⟩=G c9/\W.cell? ⟨A,10,E⟩=G c10/\W.cell? ⟨A,11,E⟩=G c11/\W.cell? ⟨A,12,E⟩=G c12/\W.cell? ⟨A,13,E⟩=G c13/\W.cell? ⟨A,14,E⟩=G c14:=
 ⟨h.ce 0,h.ce 1,h.ce 2,h.ce 3,h.ce 4,h.ce 5,h.ce 6,h.ce 7,h.ce 8,h.ce 9,h.ce 10,h.ce 11,h.ce 12,h.ce 13,h.ce 14⟩
theorem Bk.Ap(h:Bk V A t #[c0,c1,c2,c3,c4,c5,c6,c7,c8,c9,c10,c11,c12,c13,c14]):(∀ W,Bl V W->W.cell? ⟨A,0,E⟩=G c0)/\(∀ W,Bl V W->W.cell? ⟨A,1,E⟩=G c1)/\(∀ W,Bl V W->W.cell? ⟨A,2,E⟩=G c2)/\(∀ W,Bl V W->W.cell? ⟨A,3,E⟩=G c3)/\(∀ W,Bl V W->W.cell? ⟨A,4,E⟩=G c4)/\(∀ W,Bl V W->W.cell? ⟨A,5,E⟩=G c5)/\(∀ W,Bl V W->W.cell? ⟨A,6,E⟩=G c6)/\(∀ W,Bl V W->W.cell? ⟨A,7,E⟩=G c7)/\(∀ W,Bl V W->W.cell? ⟨A,8,E⟩=G c8)/\(∀ W,Bl V W->W.cell? ⟨A,9,E⟩=G c9)/\(∀ W,Bl V W->W.cell? ⟨A,10,E⟩=G c10)/\(∀ W,Bl V W->W.cell? ⟨A,11,E⟩=G c11)/\(∀ W,Bl V W->W.cell? ⟨A,12,E⟩=G c12)/\(∀ W,Bl V W->W.cell? ⟨A,13,E⟩=G c13)/\(∀ W,Bl V W->W.cell? ⟨A,14,E⟩=G c14):=
 ⟨h.all 0 D,h.all 1 D,h.all 2 D,h.all 3 D,h.all 4 D,h.all 5 D,h.all 6 D,h.all 7 D,h.all 8 D,h.all 9 D,h.all 10 D,h.all 11 D,h.all 12 D,h.all 13 D,h.all 14 D⟩
theorem mv (n:Int)(w):Calls prog 19 #[I J n] w λe w'=>e= .returned (.bool (fQ n))/\w=w':=by
 by_cases h1:0<=n
 ·by_cases h2:n<=1099511627776;have HR:=H (show fQ n=Q by unfold fQ;rw[aF h1,aF h2];rfl);rotate_left;have HR:=H (show fQ n=z by unfold fQ;rw[aC h2,Bool.and_false]);rotate_left
  all_goals
   have d1:n≥0:=h1
   go_enter func19,ntmps19
   exact abb
 ·have HR:=H (show fQ n=z by unfold fQ;rw[aC h1];rfl);have d1:¬n≥0:=h1
  go_enter func19,ntmps19
  exact abb
theorem Se (w):Calls prog 39 #[ax] w λe w'=>e= .returned (.tuple #[av,.bool z])/\w=w':=by
 go_enter func39,ntmps39
 go_wp2_with fail
 go_ret2
 exact⟨D,D⟩
theorem Sr (w):aai 21 #[ax] w (.tuple #[.agg #[av,av,av,av],.bool z]):=by
 have UN:=H Se;obtain⟨Y,V0,hY,hV0,BY,HB,HYw,SV⟩:=gC w #[av,av,av,av] 58;obtain⟨y0,y1,y2,y3⟩:=pw BY;have hb0:=br V0;have HY:=H BY
 go_enter func21,ntmps21
 go_upto_region 1 with fail
 rw[<-hV0,<-hY];clear hV0 hY
 go_wp2_with fail
 go_loopw [6,5] (λi o wr=>i= I J 0/\o= C ⟨#[]⟩/\wr=V0) (λ_ _ _=>0)
 case atStart=>exact⟨D,D,D⟩
 case round=>
  obtain⟨rfl,rfl,rfl⟩:=hrel;have yf:∀ j,wr.frozen? ⟨Y,j,E⟩=z:=λj=>Bk.fr HY j
  go_wp2_with (go_at_call 39;refine QS (UN _) ?_)
  exact aa1 (eM (p:=2) (a:=3) D _ _ _ _ _ _ _ D (show Bk _ Y _ #[av,av,av,av] from Bk.set (Bk.set (Bk.set (Bk.set HY 0 _) 1 _) 2 _) 3 _) underlying58 D TN) D ⟨D,(((HB.st (p:=⟨Y,0,E⟩) fD _).st (p:=⟨Y,1,E⟩) fD _).st (p:=⟨Y,2,E⟩) fD _).st (p:=⟨Y,3,E⟩) fD _⟩
theorem Sn (k t:Int)(u o:ay)(n st:Int)(w)(h:fL ⟨k,t,u,o,n,st⟩=Q):aai 4 #[.agg #[av,I J k,I J t,C u,C o,I J n,I J st,ax,ax,ax,av,av,av,av,ax]] w (.bool Q):=by
 obtain⟨zu,zo⟩:=jC h;have RR:=λW=>gF ⟨k,t,u,o,n,st⟩ W (by simp only at zu ⊢;omega) (by simp only at zo ⊢;omega);rw[h] at RR;unfold Ev.v Ev.cells at RR;replace RR:=H RR;have NR:=λW=>fC ⟨#[]⟩ W dc;rw[Ea] at NR;replace NR:=H NR;clear h zu zo;obtain⟨A,hA⟩:=fe w.heap.size;obtain⟨V0,hV0⟩:=fe (w.alloc (.cells #[av,I J k,I J t,C u,C o,I J n,I J st,ax,ax,ax,av,av,av,av,ax] 28));have BA:Bk V0 A 28 #[av,I J k,I J t,C u,C o,I J n,I J st,ax,ax,ax,av,av,av,av,ax]:=by rw[hV0];exact fh _ _ hA
 have HB:=H (show Bl w V0 by rw[hV0];exact gl _ _);obtain⟨a0,a1,a2,a3,a4,a5,a6,a7,a8,a9,sG,uB,a12,sQ,sP⟩:=Bk.f15 BA
 go_enter func4,ntmps4
 go_upto_region 1 with fail
 rw[<-hV0,<-hA];clear hV0 hA
 go_upto_region 2 with fail
 obtain⟨V1,X,hV1,hX,BX,LV1⟩:=iC V0 #[av,av,av,ax,ax,av,av,ax,ax,ax,av,av,av,av,ax] 28;rw[<-hV1,<-hX];clear hV1;replace hX:=H hX;obtain⟨x0,x1,x2,x3,x4,x5,x6,x7,x8,x9,x10,x11,x12,x13,x14⟩:=mE BX;have BA1:=LV1.bl BA;obtain⟨a0,a1,a2,a3,a4,a5,a6,a7,a8,a9,sG,uB,a12,sQ,sP⟩:=Bk.Ap BA1;have hbc:=br V1;obtain⟨HBX,HBA,H1,HX0⟩:=kB BX BA1 (HB.ca LV1) (show w.heap.size<=X by rw[hX.out];exact HB.size);have HAX:=H (show A≠X by rw[hX.out];exact Nat.ne_of_lt (aa2.1 BA).1);have au:=Bk.f15 HBX;obtain⟨z0,z1,z2,z3,z4,z5,z6,z7,z8,z9,z10,z11,z12,z13,z14⟩:=au;have zf:=λj=>Bk.fr HBX j
 go_upto_region 6 with(first | (go_at_call 18;refine QS (NR _) ?_))
 have K2:Bk ((((((V1.setCell ⟨X,1,E⟩ (I J k)).setCell ⟨X,2,E⟩ (I J t)).setCell ⟨X,3,E⟩ (C u)).setCell ⟨X,4,E⟩ (C o)).setCell ⟨X,5,E⟩ (I J n)).setCell ⟨X,6,E⟩ (I J st)) X 28 #[av,I J k,I J t,C u,C o,I J n,I J st,ax,ax,ax,av,av,av,av,ax]:=Bk.put (Bk.put (Bk.put (Bk.put (Bk.put (Bk.put HBX 1 (I J k)) 2 (I J t)) 3 (C u)) 4 (C o)) 5 (I J n)) 6 (I J st);have L2:Bl w ((((((V1.setCell ⟨X,1,E⟩ (I J k)).setCell ⟨X,2,E⟩ (I J t)).setCell ⟨X,3,E⟩ (C u)).setCell ⟨X,4,E⟩ (C o)).setCell ⟨X,5,E⟩ (I J n)).setCell ⟨X,6,E⟩ (I J st)):=by
  have hX:w.heap.size<=X:=HX0.out;exact(Bl.st (Bl.st (Bl.st (Bl.st (Bl.st (Bl.st H1 (p:=⟨X,1,E⟩) hX (I J k)) (p:=⟨X,2,E⟩) hX (I J t)) (p:=⟨X,3,E⟩) hX (C u)) (p:=⟨X,4,E⟩) hX (C o)) (p:=⟨X,5,E⟩) hX (I J n)) (p:=⟨X,6,E⟩) hX (I J st))
 have A2:Bk ((((((V1.setCell ⟨X,1,E⟩ (I J k)).setCell ⟨X,2,E⟩ (I J t)).setCell ⟨X,3,E⟩ (C u)).setCell ⟨X,4,E⟩ (C o)).setCell ⟨X,5,E⟩ (I J n)).setCell ⟨X,6,E⟩ (I J st)) A 28 #[av,I J k,I J t,C u,C o,I J n,I J st,ax,ax,ax,av,av,av,av,ax]:=by
  have hX:A≠X:=HAX.out;exact((aa0 _ ⟨X,6,E⟩ _ A hX).trans ((aa0 _ ⟨X,5,E⟩ _ A hX).trans ((aa0 _ ⟨X,4,E⟩ _ A hX).trans ((aa0 _ ⟨X,3,E⟩ _ A hX).trans ((aa0 _ ⟨X,2,E⟩ _ A hX).trans ((aa0 _ ⟨X,1,E⟩ _ A hX).trans HBA))))))
 generalize ((((((V1.setCell ⟨X,1,E⟩ (I J k)).setCell ⟨X,2,E⟩ (I J t)).setCell ⟨X,3,E⟩ (C u)).setCell ⟨X,4,E⟩ (C o)).setCell ⟨X,5,E⟩ (I J n)).setCell ⟨X,6,E⟩ (I J st))=V2 at K2 L2 A2 ⊢;obtain⟨x0,x1,x2,x3,x4,x5,x6,x7,x8,x9,x10,x11,x12,x13,x14⟩:=Bk.Ap K2;obtain⟨a0,a1,a2,a3,a4,a5,a6,a7,a8,a9,sG,uB,a12,sQ,sP⟩:=Bk.Ap A2;have HL2:=H L2;replace hbc:Bl V2 V2:=Bl.eH
 go_wp2_with (first | (go_at_call 20;refine qx (RR _) λw1 hbn=>?_;replace hbc:=Bl.ca hbc hbn;clear hbn))
 go_ret;exact⟨D,HL2.ca hbc⟩
theorem Is (x u)(a b t:Int)(p1 p2 p3 p4 p5:Bool)(w)(hx:∀ W,Calls prog 18 #[C x] W λe w'=>e= .returned (.bool p1)/\W=w')(hu:∀ W,Calls prog 18 #[C u] W λe w'=>e= .returned (.bool p2)/\W=w')(ht:∀ W,Calls prog 19 #[I J t] W λe w'=>e= .returned (.bool p3)/\W=w')(ha:∀ W,Calls prog 19 #[I J a] W λe w'=>e= .returned (.bool p4)/\W=w')(hb:∀ W,Calls prog 19 #[I J b] W λe w'=>e= .returned (.bool p5)/\W=w'):aai 4 #[.agg #[I J 4,av,av,ax,ax,av,av,ax,C x,C u,I J a,I J b,I J t,I J 100,ax]] w (.bool (p1&&p2&&p3&&p4&&p5)):=by
 obtain⟨HX,HU,HT,HFA⟩:=kB hx hu ht ha;obtain⟨HFB,PS⟩:=eN hb Sr;clear hx hu ht ha hb;obtain⟨A,hA⟩:=fe w.heap.size;obtain⟨V0,hV0⟩:=fe (w.alloc (.cells #[I J 4,av,av,ax,ax,av,av,ax,C x,C u,I J a,I J b,I J t,I J 100,ax] 28));have BA:Bk V0 A 28 #[I J 4,av,av,ax,ax,av,av,ax,C x,C u,I J a,I J b,I J t,I J 100,ax]:=by rw[hV0];exact fh _ _ hA
 have HB:=H (show Bl w V0 by rw[hV0];exact gl _ _);obtain⟨a0,a1,a2,a3,a4,a5,a6,a7,a8,a9,sG,uB,a12,sQ,sP⟩:=Bk.f15 BA
 go_enter func4,ntmps4
 go_upto_region 1 with fail
 rw[<-hV0,<-hA];clear hV0 hA
 go_upto_region 2 with fail
 obtain⟨V1,X,hV1,hX,BX,LV1⟩:=iC V0 #[I J 4,av,av,ax,ax,av,av,ax,ax,ax,av,av,av,av,ax] 28;rw[<-hV1,<-hX];clear hV1;replace hX:=H hX;obtain⟨x0,x1,x2,x3,x4,x5,x6,x7,x8,x9,x10,x11,x12,x13,x14⟩:=mE BX;have BA1:=LV1.bl BA;obtain⟨a0,a1,a2,a3,a4,a5,a6,a7,a8,a9,sG,uB,a12,sQ,sP⟩:=Bk.Ap BA1;have hbc:=br V1;obtain⟨HBX,HBA,H1,HX0⟩:=kB BX BA1 (HB.ca LV1) (show w.heap.size<=X by rw[hX.out];exact HB.size);have HAX:=H (show A≠X by rw[hX.out];exact Nat.ne_of_lt (aa2.1 BA).1);rcases p1 with _ | _;rotate_left;rcases p2 with _ | _;rotate_left;rcases p3 with _ | _;rotate_left;rcases p4 with _ | _;rotate_left;rcases p5 with _ | _
 all_goals
  go_upto_region 15 with(first | (go_at_call 18;with_reducible refine QS (HX.out _) ?_) | (go_at_call 18;with_reducible refine QS (HU.out _) ?_) | (go_at_call 19;with_reducible refine QS (HT.out _) ?_) | (go_at_call 21;with_reducible refine qx (PS.out _) λw1 hbn=>?_;replace hbc:=Bl.ca hbc hbn;clear hbn))
  obtain⟨V5,ar,hV5,hQ,BQ,LV5⟩:=iC w1 #[av,av,av,av] 58;rw[<-hV5,<-hQ];clear hV5;replace hQ:=H hQ;obtain⟨q0,q1,q2,q3⟩:=pw BQ;replace hbc:Bl V1 V5:=hbc.ca LV5
  go_wp2_with (first | (go_at_call 19;with_reducible refine QS (HFA.out _) ?_) | (go_at_call 19;with_reducible refine QS (HFB.out _) ?_))
  go_ret;exact⟨D,H1.ca hbc⟩
theorem Sm (x u)(t:Int)(p1 p2 p3:Bool)(w)(hx:∀ W,Calls prog 18 #[C x] W λe w'=>e= .returned (.bool p1)/\W=w')(hu:∀ W,Calls prog 18 #[C u] W λe w'=>e= .returned (.bool p2)/\W=w')(ht:∀ W,Calls prog 19 #[I J t] W λe w'=>e= .returned (.bool p3)/\W=w'):aai 4 #[.agg #[I J 5,av,av,ax,ax,av,av,ax,C x,C u,av,av,I J t,av,ax]] w (.bool (p1&&p2&&p3)):=by
 obtain⟨HX,HU,HT⟩:=gi hx hu ht;clear hx hu ht;obtain⟨A,hA⟩:=fe w.heap.size;obtain⟨V0,hV0⟩:=fe (w.alloc (.cells #[I J 5,av,av,ax,ax,av,av,ax,C x,C u,av,av,I J t,av,ax] 28));have BA:Bk V0 A 28 #[I J 5,av,av,ax,ax,av,av,ax,C x,C u,av,av,I J t,av,ax]:=by rw[hV0];exact fh _ _ hA
 have HB:=H (show Bl w V0 by rw[hV0];exact gl _ _);obtain⟨a0,a1,a2,a3,a4,a5,a6,a7,a8,a9,sG,uB,a12,sQ,sP⟩:=Bk.f15 BA
 go_enter func4,ntmps4
 go_upto_region 1 with fail
 rw[<-hV0,<-hA];clear hV0 hA
 go_upto_region 2 with fail
 obtain⟨V1,X,hV1,hX,BX,LV1⟩:=iC V0 #[I J 5,av,av,ax,ax,av,av,ax,ax,ax,av,av,av,av,ax] 28;rw[<-hV1,<-hX];clear hV1;replace hX:=H hX;obtain⟨x0,x1,x2,x3,x4,x5,x6,x7,x8,x9,x10,x11,x12,x13,x14⟩:=mE BX;have BA1:=LV1.bl BA;obtain⟨a0,a1,a2,a3,a4,a5,a6,a7,a8,a9,sG,uB,a12,sQ,sP⟩:=Bk.Ap BA1;have hbc:=br V1;obtain⟨HBX,HBA,H1,HX0⟩:=kB BX BA1 (HB.ca LV1) (show w.heap.size<=X by rw[hX.out];exact HB.size);have HAX:=H (show A≠X by rw[hX.out];exact Nat.ne_of_lt (aa2.1 BA).1);rcases p1 with _ | _;rotate_left;rcases p2 with _ | _;rotate_left;rcases p3 with _ | _;rotate_left
 all_goals
  obtain⟨z0,z1,z2,z3,z4,z5,z6,z7,z8,z9,z10,z11,z12,z13,z14⟩:=Bk.f15 HBX;have zf:=λj=>Bk.fr HBX j
  go_upto_region 18 with(first | (go_at_call 18;with_reducible refine QS (HX.out _) ?_) | (go_at_call 18;with_reducible refine QS (HU.out _) ?_) | (go_at_call 19;with_reducible refine QS (HT.out _) ?_))
  have K2:Bk (((((V1.setCell ⟨X,8,E⟩ (C x)).setCell ⟨X,9,E⟩ (C u)).setCell ⟨X,10,E⟩ av).setCell ⟨X,11,E⟩ av).setCell ⟨X,12,E⟩ (I J t)) X 28 #[I J 5,av,av,ax,ax,av,av,ax,C x,C u,av,av,I J t,av,ax]:=Bk.put (Bk.put (Bk.put (Bk.put (Bk.put HBX 8 (C x)) 9 (C u)) 10 av) 11 av) 12 (I J t);have L2:Bl w (((((V1.setCell ⟨X,8,E⟩ (C x)).setCell ⟨X,9,E⟩ (C u)).setCell ⟨X,10,E⟩ av).setCell ⟨X,11,E⟩ av).setCell ⟨X,12,E⟩ (I J t)):=by
   have hX:w.heap.size<=X:=HX0.out;exact(Bl.st (Bl.st (Bl.st (Bl.st (Bl.st H1 (p:=⟨X,8,E⟩) hX (C x)) (p:=⟨X,9,E⟩) hX (C u)) (p:=⟨X,10,E⟩) hX av) (p:=⟨X,11,E⟩) hX av) (p:=⟨X,12,E⟩) hX (I J t))
  have A2:Bk (((((V1.setCell ⟨X,8,E⟩ (C x)).setCell ⟨X,9,E⟩ (C u)).setCell ⟨X,10,E⟩ av).setCell ⟨X,11,E⟩ av).setCell ⟨X,12,E⟩ (I J t)) A 28 #[I J 5,av,av,ax,ax,av,av,ax,C x,C u,av,av,I J t,av,ax]:=by
   have hX:A≠X:=HAX.out;exact((aa0 _ ⟨X,12,E⟩ _ A hX).trans ((aa0 _ ⟨X,11,E⟩ _ A hX).trans ((aa0 _ ⟨X,10,E⟩ _ A hX).trans ((aa0 _ ⟨X,9,E⟩ _ A hX).trans ((aa0 _ ⟨X,8,E⟩ _ A hX).trans HBA)))))
  generalize (((((V1.setCell ⟨X,8,E⟩ (C x)).setCell ⟨X,9,E⟩ (C u)).setCell ⟨X,10,E⟩ av).setCell ⟨X,11,E⟩ av).setCell ⟨X,12,E⟩ (I J t))=V2 at K2 L2 A2 ⊢;obtain⟨x0,x1,x2,x3,x4,x5,x6,x7,x8,x9,x10,x11,x12,x13,x14⟩:=Bk.Ap K2;obtain⟨a0,a1,a2,a3,a4,a5,a6,a7,a8,a9,sG,uB,a12,sQ,sP⟩:=Bk.Ap A2;have HL2:=H L2;replace hbc:Bl V2 V2:=Bl.eH
  go_wp2_with fail
  go_ret;exact⟨D,HL2⟩
end Tp
namespace Tp
open Go Go.RowKit Go.Lib Go.Sort
open FrM CrcM SgM
theorem AE {k t:Int}{o:ay}{n st:Int}(h:fL ⟨k,t,u,o,n,st⟩=Q):∀ x∈lp::eD k::eD t::lI ⟨k,t,u,o,n,st⟩,x.size<=1000000:=by
 intro x hx;rcases aE.1 hx with rfl | hx
 ·decide
 rcases aE.1 hx with rfl | hx
 ·have:=fg k;omega
 ·have:=iX h x hx;omega
theorem Vx (k t:Int)(u o:ay)(n st:Int)(w)(h:fL ⟨k,t,u,o,n,st⟩=Q)(hg:Gb w):aai 83 #[.agg #[av,I J k,I J t,C u,C o,I J n,I J st,ax,ax,ax,av,av,av,av,ax]] w (C (gR (lp::eD k::eD t::lI ⟨k,t,u,o,n,st⟩))):=by
 obtain⟨RI,WD,LN⟩:=gi (λW (_:Bl w W)=>GG.1 k t u o n st W h) (λW (hW:Bl w W)=>VB k t u o n st W h (hg.below hW (aB _))) (λW v (hv:eO W v (lp::eD k::eD t::lI ⟨k,t,u,o,n,st⟩))=>kV _ v W hv (by simp;have:=pQ ⟨k,t,u,o,n,st⟩;omega) (AE h));obtain⟨A,hA⟩:=fe w.heap.size;obtain⟨V0,hV0⟩:=fe (w.alloc (.cells #[av,I J k,I J t,C u,C o,I J n,I J st,ax,ax,ax,av,av,av,av,ax] 121));have BA:Bk V0 A 121 #[av,I J k,I J t,C u,C o,I J n,I J st,ax,ax,ax,av,av,av,av,ax]:=by rw[hV0];exact fh _ _ hA
 exact kv
theorem Vw (w):aai 83 #[.agg #[I J 1,av,av,ax,ax,av,av,ax,ax,ax,av,av,av,av,ax]] w (C (gR ([kg]))):=by
 obtain⟨RI,WD,LN⟩:=gi (λW (_:Bl w W)=>GG.2.1 W) (λW (_:Bl w W)=>OY.1 W) (λW v (hv:eO W v ([kg]))=>kV _ v W hv sm (by intro s hs;simp only[bP] at hs;subst hs;decide));obtain⟨A,hA⟩:=fe w.heap.size;obtain⟨V0,hV0⟩:=fe (w.alloc (.cells #[I J 1,av,av,ax,ax,av,av,ax,ax,ax,av,av,av,av,ax] 121));have BA:Bk V0 A 121 #[I J 1,av,av,ax,ax,av,av,ax,ax,ax,av,av,av,av,ax]:=by rw[hV0];exact fh _ _ hA
 exact kv
theorem Vv (u)(w)(h:gD u=Q):aai 83 #[.agg #[I J 3,av,av,ax,ax,av,av,C u,ax,ax,av,av,av,av,ax]] w (C (gR ([iB,u]))):=by
 obtain⟨RI,WD,LN⟩:=gi (λW (_:Bl w W)=>GG.2.2 u W h) (λW (_:Bl w W)=>OY.2 u W) (λW v (hv:eO W v ([iB,u]))=>kV _ v W hv sm (by intro s hs;have:=gA h;simp only[aE,aO,aQ] at hs;rcases hs with rfl | rfl;decide;omega));obtain⟨A,hA⟩:=fe w.heap.size;obtain⟨V0,hV0⟩:=fe (w.alloc (.cells #[I J 3,av,av,ax,ax,av,av,C u,ax,ax,av,av,av,av,ax] 121));have BA:Bk V0 A 121 #[I J 3,av,av,ax,ax,av,av,C u,ax,ax,av,av,av,av,ax]:=by rw[hV0];exact fh _ _ hA
 exact kv
theorem Vu (x u)(a b t m:Int)(w)(hx:gD x=Q)(hu:gD u=Q)(ha:fQ a=Q)(hb:fQ b=Q)(ht:fQ t=Q)(hm:1<=m/\m<=100)(hg:Gb w):aai 83 #[.agg #[I J 4,av,av,ax,ax,av,av,ax,C x,C u,I J a,I J b,I J t,I J m,ax]] w (C (gR ([gI,x,u,eD a,eD b,eD t,eD m,gE]))):=by
 obtain⟨RI,WD,LN⟩:=gi (λW (hW:Bl w W)=>Wh x u a b t m W hx hu ha hb ht hm (hg.below hW (aB _))) (λW (hW:Bl w W)=>VA x u a b t m W (hg.below hW (aB _))) (λW v (hv:eO W v ([gI,x,u,eD a,eD b,eD t,eD m,gE]))=>kV _ v W hv sm (by intro s hs;have h1:=gA hx;have h2:=gA hu;have d1:=fg a;have d2:=fg b;have d3:=fg t;have d4:=fg m;simp only[aE,aO,aQ] at hs;rcases hs with rfl | rfl | rfl | rfl | rfl | rfl | rfl | rfl<;>first | omega | decide));obtain⟨A,hA⟩:=fe w.heap.size;obtain⟨V0,hV0⟩:=fe (w.alloc (.cells #[I J 4,av,av,ax,ax,av,av,ax,C x,C u,I J a,I J b,I J t,I J m,ax] 121));have BA:Bk V0 A 121 #[I J 4,av,av,ax,ax,av,av,ax,C x,C u,I J a,I J b,I J t,I J m,ax]:=by rw[hV0];exact fh _ _ hA
 exact kv
theorem Vt (x u)(t:Int)(w)(hx:gD x=Q)(hu:gD u=Q)(ht:fQ t=Q)(hg:Gb w):aai 83 #[.agg #[I J 5,av,av,ax,ax,av,av,ax,C x,C u,av,av,I J t,av,ax]] w (C (gR ([iz,x,u,eD t]))):=by
 obtain⟨RI,WD,LN⟩:=gi (λW (_:Bl w W)=>Wg x u t W hx hu ht) (λW (hW:Bl w W)=>Vz x u t W (hg.below hW (aB _))) (λW v (hv:eO W v ([iz,x,u,eD t]))=>kV _ v W hv sm (by intro s hs;have h1:=gA hx;have h2:=gA hu;have d3:=fg t;simp only[aE,aO,aQ] at hs;rcases hs with rfl | rfl | rfl | rfl<;>first | omega | decide));obtain⟨A,hA⟩:=fe w.heap.size;obtain⟨V0,hV0⟩:=fe (w.alloc (.cells #[I J 5,av,av,ax,ax,av,av,ax,C x,C u,av,av,I J t,av,ax] 121));have BA:Bk V0 A 121 #[I J 5,av,av,ax,ax,av,av,ax,C x,C u,av,av,I J t,av,ax]:=by rw[hV0];exact fh _ _ hA
 exact kv
theorem JU{F:List ay}(hg:g<w.heap.size)(hn:F.length<=c)(hc:∀ k (h:k<F.length),w.cell? ⟨g,off+k,E⟩=G (C F[k]))(j:Nat)(hj:j<=F.length)(hnn:n=F.length):eO w (Z (G ⟨g,off+j,E⟩) (n - j) (c - j)) (F.drop j):=by
 subst hnn;refine⟨G ⟨g,off+j,E⟩,c - j,by rw[bm],λ_=>⟨g,off+j,D,hg,by rw[bm];omega,λk hk=>?_⟩⟩;rw[bm] at hk;rw[List.getElem_drop,cN];exact hc (j+k) om
theorem Bk.f6{a b c d e f:Value}(h:Bk W A t #[a,b,c,d,e,f]):W.cell? ⟨A,0,E⟩=G a/\W.cell? ⟨A,1,E⟩=G b/\W.cell? ⟨A,2,E⟩=G c/\W.cell? ⟨A,3,E⟩=G d/\W.cell? ⟨A,4,E⟩=G e/\W.cell? ⟨A,5,E⟩=G f:=
 ⟨h.ce 0,h.ce 1,h.ce 2,h.ce 3,h.ce 4,h.ce 5⟩
theorem Bk.s6{a b c d e f:Value}(h:Bk W A t #[a,b,c,d,e,f])(a' b' c' d' e' f'):Bk (kS W A a' b' c' d' e' f') A t #[a',b',c',d',e',f']:=
 (((((Bk.set h 0 a').set 1 b').set 2 c').set 3 d').set 4 e').set 5 f'
theorem Gt (k t:Int)(u o:ay)(n st:Int)(v)(w)(h:fL ⟨k,t,u,o,n,st⟩=Q)(hg:Gb w)(hs:eO w v (lp::eD k::eD t::lI ⟨k,t,u,o,n,st⟩)):
 aai 82 #[v] w (.agg #[I J k,I J t,C u,C o,I J n,I J st]):=by
 have hk:=kD h;have HK:=H (show k=1∨k=2∨k=3∨k=4∨k=5∨k=6∨k=7 by dsimp only at hk;omega);have OF:=λW (hW:Bl w W)=>UZ ⟨k,t,u,o,n,st⟩ W (hg.below hW (aB _)) h;have hf:jM ⟨k,t,u,o,n,st⟩= .agg #[I U (Bt k),C (ph ⟨k,t,u,o,n,st⟩)]:=by unfold jM;rw[aA h]
 rw[hf] at OF;unfold Ev.v Ev.cells at OF;dsimp only at OF hk;have UD:=λW (hW:Bl w W)=>uK (eD k) W (hg.below hW (aB _)) (by have:=fg k;omega);rw[iE om om] at UD;have hsm:=iX h;have hwl:=pQ ⟨k,t,u,o,n,st⟩;obtain⟨A,c,rfl,h2⟩:=hs;obtain⟨g,off,rfl,hgw,hnc,hcl⟩:=h2 sm;have c1:=hcl 1 sm;have SD:=JU hgw hnc hcl 2 sm D;have LN:=λW (hW:Bl w W)=>kV (eD t::lI ⟨k,t,u,o,n,st⟩) _ W (SD.below hW) eC (λx hx=>by have:=hsm x hx;omega);rw[show gR (eD t::lI ⟨k,t,u,o,n,st⟩)=ph ⟨k,t,u,o,n,st⟩ from rfl] at LN;have hm3:3<=(lp::eD k::eD t::lI ⟨k,t,u,o,n,st⟩).length:=sm;obtain⟨m,hm⟩:=fe ((lp::eD k::eD t::lI ⟨k,t,u,o,n,st⟩).length);rw[<-hm] at hm3 hnc LN ⊢;have j1:¬k<1:=om;have j2:¬k>7:=om;have i1:¬(m:Int)<3:=om;have i2:(1:Int)<(m:Int):=om;have i3:(2:Int)<=(m:Int):=om;have i5:¬c=2:=om;have i4:((m:Int) - 2).toNat=m - 2:=om;generalize ph ⟨k,t,u,o,n,st⟩=B at OF LN
 change w.cell? ⟨g,off+1,E⟩=G (C (eD k)) at c1
 generalize eD k=dk at c1 UD;replace OF:=H OF;replace UD:=H UD;replace LN:=H LN;obtain⟨Y,V,hY,hV,BY,HB,HYw,SV⟩:=gC w #[av,av,ax,ax,av,av] 115;obtain⟨y0,y1,y2,y3,y4,y5⟩:=jg BY;have HY:=H BY;replace c1:=HB.ce c1;replace OF:=H (λW (hW:Bl V W)=>OF W (HB.ca hW));replace LN:=H (λW (hW:Bl V W)=>LN W (HB.ca hW));clear hk hf hsm hwl hgw hcl hm h hg
 go_enter func82,ntmps82
 go_upto_region 1 with fail
 rw[<-hV,<-hY];clear hV hY
 go_upto_region 6 with(go_at_call 80;refine qx (UD _ HB) λw3 hb3=>?_)
 refine jI (T:=TT) (S:=Bl V) [12] trivial (Bl.dr hb3) λhT0 hS0=>?_
 try dsimp only at hT0 hS0
 refine aaa [0,1] ?_;refine lJ (i:=2) (v:=I U (Bt k)) D kr kr kr (λ_ _ _ h=>h) kr (aG ⟨by rfl,?_⟩) ⟨hT0,λ_=>hS0⟩ ?_
 ·intro wx hSx;go_simp;rcases HK.out with rfl | rfl | rfl | rfl | rfl | rfl | rfl<;>rfl
 try simp only[gz,fI]
 refine aaa [3,4] ?_;refine zB [5,11] (.cons D (λ_ hK=>?_) (.cons D (λ_ hK=>?_) .nil))
 focus
  go_simp
  (go_at_call 54;refine qx (LN _ hS0) λw5 hb5=>?_)
  try (replace hG:=Bl.bl hb5 hG;obtain⟨g0,g1,g2,g3,g4,g5⟩:=rX hG;have gf:=λj=>Bk.fr hG j)
  have hT1:=hT0.ca hb5;have hS1:=hS0.ca hb5;refine kq hK ?_;refine qd 6 ?_;refine zB [7,11] (.cons D (λ_ hK=>?_) (.cons D (λ_ hK=>?_) .nil))
  focus
   go_simp
   (go_at_call 116;refine qx (OF _ hS1) λw7 hb7=>?_)
   have hSC:=hS1
   try (replace hG:=Bl.bl hb7 hG;obtain⟨g0,g1,g2,g3,g4,g5⟩:=rX hG;have gf:=λj=>Bk.fr hG j)
   have hT2:=hT1.ca hb7;have hS2:=hS1.ca hb7;refine kq hK ?_;refine aaa [8,9,10] ?_;refine zB [11] (.cons D (λ_ hK=>?_) .nil);go_simp;obtain⟨hG,hGs,hT3,hS3⟩:=alt hT2 hS2 #[av,av,ax,ax,av,av] 115
   try (replace hG:=zW hG;replace hGs:=zV hGs)
   obtain⟨g0,g1,g2,g3,g4,g5⟩:=jF hG;have gf:=λj=>Bk.fr hG j;refine kq hK ?_;refine zB [12] (.cons D (λ_ hK=>?_) .nil);go_simp;refine fJ (hK _ _) trivial (eI (j:=12) kr kr) (λhT4=>?_)
   try dsimp only at hT4
   try simp only[gz,fI]
   refine tz 13 hT4 (eI (j:=12) kr kr) ?_;refine iU ?_;have hL:=hS3
  rotate_left 1
  focus
   go_simp;obtain⟨hG,hGs,hT2,hS2⟩:=alt hT1 hS1 #[av,av,ax,ax,av,av] 115
   try (replace hG:=zW hG;replace hGs:=zV hGs)
   obtain⟨g0,g1,g2,g3,g4,g5⟩:=jF hG;have gf:=λj=>Bk.fr hG j;refine kq hK ?_;refine zB [7] (.cons D (λ_ hK=>?_) .nil);go_simp
   (go_at_call 116;refine qx (OF _ hS2) λw7 hb7=>?_)
   have hSC:=hS2
   try (replace hG:=Bl.bl hb7 hG;obtain⟨g0,g1,g2,g3,g4,g5⟩:=rX hG;have gf:=λj=>Bk.fr hG j)
   have hT3:=hT2.ca hb7;have hS3:=hS2.ca hb7;refine kq hK ?_;refine aaa [8,9,10] ?_;refine zB [12] (.cons D (λ_ hK=>?_) .nil);go_simp;refine fJ (hK _ _) trivial (eI (j:=12) kr kr) (λhT4=>?_)
   try dsimp only at hT4
   try simp only[gz,fI]
   refine tz 13 hT4 (eI (j:=12) kr kr) ?_;refine iU ?_;have hL:=hS3
  rotate_left 1
 rotate_left 2
 focus
  go_simp;obtain⟨hG,hGs,hT1,hS1⟩:=alt hT0 hS0 #[av,av,ax,ax,av,av] 115
  try (replace hG:=zW hG;replace hGs:=zV hGs)
  obtain⟨g0,g1,g2,g3,g4,g5⟩:=jF hG;have gf:=λj=>Bk.fr hG j;refine kq hK ?_;refine zB [5] (.cons D (λ_ hK=>?_) .nil);go_simp
  (go_at_call 54;refine qx (LN _ hS1) λw5 hb5=>?_)
  try (replace hG:=Bl.bl hb5 hG;obtain⟨g0,g1,g2,g3,g4,g5⟩:=rX hG;have gf:=λj=>Bk.fr hG j)
  have hT2:=hT1.ca hb5;have hS2:=hS1.ca hb5;refine kq hK ?_;refine qd 6 ?_;refine zB [7] (.cons D (λ_ hK=>?_) .nil);go_simp
  (go_at_call 116;refine qx (OF _ hS2) λw7 hb7=>?_)
  have hSC:=hS2
  try (replace hG:=Bl.bl hb7 hG;obtain⟨g0,g1,g2,g3,g4,g5⟩:=rX hG;have gf:=λj=>Bk.fr hG j)
  have hT3:=hT2.ca hb7;have hS3:=hS2.ca hb7;refine kq hK ?_;refine aaa [8,9,10] ?_;refine zB [12] (.cons D (λ_ hK=>?_) .nil);go_simp;refine fJ (hK _ _) trivial (eI (j:=12) kr kr) (λhT4=>?_)
  try dsimp only at hT4
  try simp only[gz,fI]
  refine tz 13 hT4 (eI (j:=12) kr kr) ?_;refine iU ?_;have hL:=hS3
 rotate_left 1
 all_goals
  first
   | (have q:Bk w7 _ 115 _:=hG
      have hL6:=hL.kO hGs (I J k) (I J t) (C u) (C o) (I J n) (I J st);unfold kS at hL6;have k6:Bk _ _ 115 #[I J k,I J t,C u,C o,I J n,I J st]:=Bk.set (Bk.set (Bk.set (Bk.set (Bk.set (Bk.set hG 0 (I J k)) 1 (I J t)) 2 (C u)) 3 (C o)) 4 (I J n)) 5 (I J st);clear q hL hG;generalize (((((((w7:World).setCell ⟨_,0,E⟩ (I J k)).setCell ⟨_,1,E⟩ (I J t)).setCell ⟨_,2,E⟩ (C u)).setCell ⟨_,3,E⟩ (C o)).setCell ⟨_,4,E⟩ (I J n)).setCell ⟨_,5,E⟩ (I J st))=W6 at*)
   | (have hL6:=(hSC.ca hb7).al (.cells #[I J k,I J t,C u,C o,I J n,I J st] 115)
      have k6:Bk _ _ 115 #[I J k,I J t,C u,C o,I J n,I J st]:=eL w7 (.cells #[I J k,I J t,C u,C o,I J n,I J st] 115);clear hL hG;generalize (w7.alloc (.cells #[I J k,I J t,C u,C o,I J n,I J st] 115))=W6 at*)
 all_goals
  obtain⟨HL6,HY6⟩:=eN hL6 (hL6.bl HY);obtain⟨q0,q1,q2,q3,q4,q5⟩:=Bk.f6 k6;obtain⟨z0,z1,z2,z3,z4,z5⟩:=Bk.f6 HY6;have zf:=λj=>Bk.fr HY6 j;clear hL6
  go_wp2_with fail
  exact aa1 (eS (p:=2) D _ _ _ _ _ _ _ D (Bk.s6 HY6 _ _ _ _ _ _) underlying115 D BO) D ⟨D,(HB.ca HL6).kO fD _ _ _ _ _ _⟩
