/- Lemmas for AfterglowSecret: what functions of the program return; no condition. -/
import Derived.Test.YtkpdknkidnfgiaaGreatDoorJX
set_option maxHeartbeats 0
set_option maxRecDepth 100000
set_option linter.unusedVariables false
open Go.Value renaming int->I,string->C,slice->Z
open Go.IntKind renaming i64->J,u8->U
open Option renaming none->E,some->G
open Bool renaming true->Q,false->z
open Go.Lib renaming hid->H
open Go.Proofs.Tryz
namespace Go.Proofs.YtkpdknkidnfgiaaGreatDoor
variable {u:ByteArray} {X:Nat} {V W w:World}
namespace Tp
open Go Go.RowKit Go.Lib Go.Sort
open FrM CrcM SgM
def XL (W:World)(X:Nat)(F:List ay):Prop:=∃ v,W.cell? ⟨X,0,E⟩=G v/\eO W v F
theorem XL.bl{F}(h:XL V X F)(hb:Bl V W):XL W X F:=
 let⟨v,h1,h2⟩:=h;⟨v,hb.ce h1,h2.below hb⟩
theorem Bg (F)(X k:Nat)(w)(h:XL w X F)(hk:k<=100):
 Calls prog 78 #[I J k,.pointer (G ⟨X,0,E⟩)] w λe w'=>e= .returned (C (iS F k))/\w=w':=by
 obtain⟨v,hX,hs⟩:=h;obtain⟨A,cap,rfl,hc⟩:=hs;obtain⟨n,hn,HN⟩:=nh F.length;rw[<-hn] at hX;clear hn;by_cases hlt:k<n
 ·have hk':k<F.length:=by rw[<-HN.out];exact hlt
  obtain⟨g,off,rfl,hg,hcap,hcl⟩:=hc abr;have c0:=hcl k hk';have HE:=H (show iS F k=F[k] by unfold iS;simp[hk']);clear hcl hcap hc;generalize F[k]=s at c0 HE;have i0:(0:Int)<=(k:Int):=om;have i1:(k:Int)<n:=om;have i2:¬(n:Int)<=k:=om;have d2:decide ((n:Int)<=k)=z:=aC i2
  go_enter func78,ntmps78
  exact ib
 ·have HE:=H (show iS F k=bs [] by unfold iS;rw[db,b6 ju];rfl);have i2:(n:Int)<=k:=om;have d2:decide ((n:Int)<=k)=Q:=aF i2;clear hc
  go_enter func78,ntmps78
  exact ib
theorem Iz (F)(X X2 k:Nat)(w)(hg:Gb w)(h:XL w X F)(h2:w.cell? ⟨X2,0,E⟩=G (.func (.func 78) #[] #[.pointer (G ⟨X,0,E⟩)]))(hF:∀ s∈F,s.size<=1000000)(hk:k<=100):
 aai 79 #[I J k,.pointer (G ⟨X2,0,E⟩)] w (I J (e8 F k)):=by
 have R1:=H (Bg F X k w h hk);have hz:(iS F k).size<=1000000:=by
  unfold iS;by_cases hlt:k<F.length
  ·rw[db,aW hlt];exact hF _ (aV _)
  ·rw[db,b6 om];decide
 obtain⟨UD,HN⟩:=eN (uK (iS F k) w hg om) (show e8 F k=(tD (iS F k)).getD 0 from rfl);rw[HN.out];clear h hg hF hz
 go_enter func79,ntmps79
 go_wp2_with (first | (go_at_call 78;refine QS R1 ?_) | (go_at_call 80;refine qx UD λw2 hb2=>?_))
 go_ret;exact⟨D,hb2⟩
theorem zm{v}{F}(h:eO w v F):∃ A c,v= Z A F.length c:=let⟨A,c,h1,_⟩:=h;⟨A,c,h1⟩
theorem CG {k t:Int}{o:ay}{n st:Int}(h:fL ⟨k,t,u,o,n,st⟩=Q):∀ x∈lp::eD k::eD t::lI ⟨k,t,u,o,n,st⟩,x.size<=100:=by
 intro x hx;rcases aE.1 hx with rfl | hx
 ·decide
 rcases aE.1 hx with rfl | hx
 ·exact fg k
 ·exact iX h x hx
theorem oh {F:List ay}(hl:F.length<=8)(h:∀ s∈F,s.size<=100):(gR F).size<=900000:=by
 unfold gR
 split
 ·have h1:=rP 100 (F.map (·.data.toList)) (λx hx=>by
   obtain⟨y,hy,rfl⟩:=bI.1 hx;have:=h y hy
   rwa[eZ] at this)
  rw[iR];rw[bg] at h1;omega
 ·decide
def xA:List ay:=[lp,kg,M7,iB,gI,iz]
theorem Ok {p:Prop}(h:p:=by
 have hsz:∀ s∈F,s.size<=1000000:=λs hs=>aH (hty s hs) dc;have SPL:=lq (F:=F) (by rw[hF];simp) hall;have hln:=oh (F:=F) h8 hty;have NE:=o8 (F:=F) (by rw[hF];simp) hall;obtain⟨s,hs⟩:=fe (gR F);rw[<-hs] at SPL hln WR NE ⊢;have SP:=λW (hW:Bl w W)=>oW s W (hg.below hW (aB _)) hln;rw[SPL] at SP;have E1:s.toList≠[]:=by intro e;rw[ByteArray.toList_eq] at e;have:=ZP s;rw[e] at this;exact NE this
 have n1:(s.toList==[])=z:=by rw[aX];exact E1
 replace SP:=H SP;replace WR:=H WR;have HG:=H hg;have HSZ:=H hsz;clear hall hty h8 SPL hln NE hF hs hg hsz E1;obtain⟨Y,V0,hY,hV0,BY,HB,HYw,SV⟩:=gC w #[av,av,av,ax,ax,av,av,ax,ax,ax,av,av,av,av,ax] 121;obtain⟨y0,y1,y2,y3,y4,y5,y6,y7,y8,y9,y10,y11,y12,y13,y14⟩:=mE BY;have HY:=H BY;clear BY SV y0 y1 y2 y3 y4 y5 y6 y7 y8 y9 y10 y11 y12 y13 y14;have hb0:=br V0
 go_enter func55,ntmps55
 go_upto_region 1 with fail
 rw[<-hV0,<-hY];clear hV0 hY
 go_upto_region 2 with((go_at_call 77;with_reducible refine(SP.out _ HB.out).mono ?_;rintro e w1 ⟨v1,rfl,hs1,hb1⟩;obtain⟨A1,c1,rfl⟩:=zm hs1))
 obtain⟨V1,X,hV1,hX,BX,LV1⟩:=iC w1 #[Z A1 F.length c1] 48;rw[<-hV1,<-hX];clear hV1;replace hX:=H hX;have x0:=BX.all 0 D;have HS1:=H (eO.below hs1 LV1);have HX:=H (show XL V1 X F from⟨_,x0 V1 Bl.eH,eO.below hs1 LV1⟩);have H1:=H (show Bl V0 V1 from Bl.ca hb1 LV1);clear hs1 hb1 BX
 go_upto_region 3 with fail
 obtain⟨V2,X2,hV2,hX2,BX2,LV2⟩:=iC V1 #[.func (.func 78) #[] #[.pointer (G ⟨X,0,E⟩)]] 81;rw[<-hV2,<-hX2];clear hV2;replace hX2:=H hX2;have x20:=BX2.all 0 D;have H2:=H (show Bl V0 V2 from H1.ca LV2);have HGV:=H (λW (hW:Bl V2 W)=>HG.below (HB.ca (H2.ca hW)) (aB _));have WD:=H (λ(k:Nat) (j:Int) (hj:j=(k:Int)) (hk:k<=100) W (hW:Bl V2 W)=>(show Calls prog 78 #[I J j,.pointer (G ⟨X,0,E⟩)] W λe w'=>e= .returned (C (iS F k))/\W=w' from by rw[hj];exact Bg F X k W (HX.bl (LV2.ca hW)) hk));have NM:=H (λ(k:Nat) (j:Int) (hj:j=(k:Int)) (hk:k<=100) W (hW:Bl V2 W)=>(show aai 79 #[I J j,.pointer (G ⟨X2,0,E⟩)] W (I J (e8 F k)) from by rw[hj];exact Iz F X X2 k W (HGV W hW) (HX.bl (LV2.ca hW)) (x20 W hW) HSZ hk));replace x0:=λW (hW:Bl V2 W)=>x0 W (LV2.ca hW);clear BX2
 go_upto_region 4 with fail
 refine jI (T:=TT) (S:=(λw'=>Bl V2 w')) [6] trivial (Bl.dr Bl.eH) λhT0 hS0=>?_
 try dsimp only at hT0 hS0
 refine td 0 ?_;refine td 2 ?_;refine ti 1 5 (λKQ hK=>?_) λKQ hK=>?_
 focus
  go_simp
  (go_at_call 78;refine(WD 1 1 D dc _ (hS0)).mono ?_;rintro e w5 ⟨rfl,rfl⟩)
  have hT1:=(hT0).ca Bl.eH;have hS1:=(hS0).ca Bl.eH;refine kq hK ?_;clear hK KQ;refine ti 3 5 (λKQ hK=>?_) λKQ hK=>?_
  focus
   go_simp
   (go_at_call 78;refine(WD 2 2 D dc _ (hS1)).mono ?_;rintro e w6 ⟨rfl,rfl⟩)
   have hT2:=(hT1).ca Bl.eH;have hS2:=(hS1).ca Bl.eH;refine kq hK ?_;clear hK KQ;refine qd 4 ?_;refine eK 5 λKQ hK=>?_;go_simp;obtain⟨hG,hGs,hT3,hS3⟩:=alt hT2 hS2 #[ax,ax] 117
   try (replace hG:=zW hG;replace hGs:=zV hGs)
   obtain⟨g0,g1⟩:=XM hG;have gf:=λj=>Bk.fr hG j;refine kq hK ?_;clear hK KQ;refine eK 6 λKQ hK=>?_;go_simp;refine fJ (hK _ _) (trivial) (eI (j:=6) kr kr) (λhT4=>?_)
   try dsimp only at hT4
   clear hK KQ
   try simp only[gz,fI]
   refine iU ?_
   try clear hG hGs g0 g1 gf
   clear hT4 hS3 hT3 hS2 hT2 hS1 hT1 hS0 hT0;refine ?lf
  rotate_left 1
  focus
   go_simp;obtain⟨hG,hGs,hT2,hS2⟩:=alt hT1 hS1 #[ax,ax] 117
   try (replace hG:=zW hG;replace hGs:=zV hGs)
   obtain⟨g0,g1⟩:=XM hG;have gf:=λj=>Bk.fr hG j;refine kq hK ?_;clear hK KQ;refine eK 3 λKQ hK=>?_;go_simp
   (go_at_call 78;refine(WD 2 2 D dc _ (hS2)).mono ?_;rintro e w6 ⟨rfl,rfl⟩)
   have hT3:=(hT2).ca Bl.eH;have hS3:=(hS2).ca Bl.eH;refine kq hK ?_;clear hK KQ;refine qd 4 ?_;refine eK 6 λKQ hK=>?_;go_simp;refine fJ (hK _ _) (trivial) (eI (j:=6) kr kr) (λhT4=>?_)
   try dsimp only at hT4
   clear hK KQ
   try simp only[gz,fI]
   refine iU ?_
   try clear hG hGs g0 g1 gf
   clear hT4 hS3 hT3 hS2 hT2 hS1 hT1 hS0 hT0;exact ?lf
 rotate_left 1
 focus
  go_simp;obtain⟨hG,hGs,hT1,hS1⟩:=alt hT0 hS0 #[ax,ax] 117
  try (replace hG:=zW hG;replace hGs:=zV hGs)
  obtain⟨g0,g1⟩:=XM hG;have gf:=λj=>Bk.fr hG j;refine kq hK ?_;clear hK KQ;refine eK 1 λKQ hK=>?_;go_simp
  (go_at_call 78;refine(WD 1 1 D dc _ (hS1)).mono ?_;rintro e w5 ⟨rfl,rfl⟩)
  have hT2:=(hT1).ca Bl.eH;have hS2:=(hS1).ca Bl.eH;refine kq hK ?_;clear hK KQ;refine eK 3 λKQ hK=>?_;go_simp
  (go_at_call 78;refine(WD 2 2 D dc _ (hS2)).mono ?_;rintro e w6 ⟨rfl,rfl⟩)
  have hT3:=(hT2).ca Bl.eH;have hS3:=(hS2).ca Bl.eH;refine kq hK ?_;clear hK KQ;refine qd 4 ?_;refine eK 6 λKQ hK=>?_;go_simp;refine fJ (hK _ _) (trivial) (eI (j:=6) kr kr) (λhT4=>?_)
  try dsimp only at hT4
  clear hK KQ
  try simp only[gz,fI]
  refine iU ?_
  try clear hG hGs g0 g1 gf
  clear hT4 hS3 hT3 hS2 hT2 hS1 hT1 hS0 hT0;exact ?lf
 all_goals
  obtain⟨V6,X3,hV6,hX3,BX3,LV6⟩:=iC V2 #[C (iS F 1),C (iS F 2)] 117;rw[<-hV6,<-hX3];clear hV6;replace hX3:=H hX3;obtain⟨x30,x31⟩:=ni BX3;obtain⟨W6,hW6⟩:=fe V6.drew;have hL6:Bl V2 W6:=by rw[hW6];exact Bl.dr LV6
  have k6:Bk W6 X3 117 #[C (iS F 1),C (iS F 2)]:=by rw[hW6];exact BX3
  rw[<-hW6];clear hW6 BX3 LV6 x30 x31;have H6:=H hL6;have hb6:=br W6;have x2v:=x20;replace x20:=λW (hW:Bl W6 W)=>x20 W (H6.ca hW);replace x0:=λW (hW:Bl W6 W)=>x0 W (H6.ca hW);have P0:=Bk.all k6 0 D;have P1:=Bk.all k6 1 D;have Q0:=H (show ∀ W,Bl W6 W->Calls prog 78 #[av,.pointer (G ⟨X,0,E⟩)] W λe w'=>e= .returned (C (iS F 0))/\W=w' from λW hW=>WD 0 0 D dc W (H6.ca hW));have SI:=λv W (hs:eO W v xA)=>sW xA (iS F 0) v W hs dc;rw[WD0,IXV] at SI;rw[WD0] at Q0;replace SI:=H (SI (Z (G ⟨W6.heap.size,0,E⟩) 6 6) _ (lL xA (eL W6 (.cells #[C ⟨#[112,117,116]⟩,C ⟨#[115,121,110,99]⟩,C ⟨#[99,111,109,112,97,99,116]⟩,C ⟨#[112,117,114,103,101]⟩,C ⟨#[114,97,110,103,101]⟩,C ⟨#[108,97,115,116]⟩] 9)) D D dc));clear hL6 k6
  go_upto_region 5 with fail
  have hbs:Bl W6 (W6.alloc (.cells #[C ⟨#[112,117,116]⟩,C ⟨#[115,121,110,99]⟩,C ⟨#[99,111,109,112,97,99,116]⟩,C ⟨#[112,117,114,103,101]⟩,C ⟨#[114,97,110,103,101]⟩,C ⟨#[108,97,115,116]⟩] 9)):=gl _ _
  go_upto_region 6 with(first | ((go_at_call 78;with_reducible refine(Q0.out _ ms).mono ?_;rintro e w5 ⟨rfl,rfl⟩)) | ((go_at_call 81;with_reducible refine(SI.out).mono ?_;rintro e w7 ⟨rfl,rfl⟩)))
  obtain⟨X5,hX5⟩:=fe W6.heap.size;obtain⟨V8,hV8⟩:=fe ((W6.alloc (.cells #[C ⟨#[112,117,116]⟩,C ⟨#[115,121,110,99]⟩,C ⟨#[99,111,109,112,97,99,116]⟩,C ⟨#[112,117,114,103,101]⟩,C ⟨#[114,97,110,103,101]⟩,C ⟨#[108,97,115,116]⟩] 9)).alloc (.cells #[I J c0,av,av,ax,ax,av,av,ax,ax,ax,av,av,av,av,ax] 121));obtain⟨X4,hX4e⟩:=fe (X5+1);have BX4:Bk V8 X4 121 #[I J c0,av,av,ax,ax,av,av,ax,ax,ax,av,av,av,av,ax]:=by rw[hV8];exact fh _ _ aaO
  rw[hc.out] at hV8 BX4;rw[<-hX5,<-hV8,<-hX4e];have H68:=H (show Bl W6 V8 by rw[hV8];exact Jp _ _ _);have hX4:=H (show V0.heap.size<=X4 by have h1:=(H2.ca H6).size;rw[hX4e,hX5];omega);have hX4c:V2.heap.size<=X4:=by have h1:=H6.size;rw[hX4e,hX5];omega
  clear hV8 hX5 hX4e hbs;have H8:=H (show Bl V2 V8 from H6.ca H68);have hb8:=br V8;have HX4:=H BX4;have xf:=λW (hW:Bl V8 W) j=>Bk.fr (hW.bl HX4) j;obtain⟨x40,x41,x42,x43,x44,x45,x46,x47,x48,x49,x410,x411,x412,x413,x414⟩:=Bk.Ap BX4;have y20:=H (λW (hW:Bl V2 W)=>x2v W hW);replace x20:=λW (hW:Bl V8 W)=>x20 W (H68.ca hW);replace x0:=λW (hW:Bl V8 W)=>x0 W (H68.ca hW);replace P0:=λW (hW:Bl V8 W)=>P0 W (H68.ca hW);replace P1:=λW (hW:Bl V8 W)=>P1 W (H68.ca hW);have hX4b:=H (show V2.heap.size<=X4 by exact hX4c);clear BX4 H6 hb6 Q0 SI x2v hX4c
  first
   | have _:Tg 0:=tg
     have Q8:=H (PT _ V8 (HB.ca (H2.ca H8)) (eO.below HS1 (LV2.ca H8)));clear P0 P1 x20
     go_upto_region 19 with((go_at_call 82;with_reducible refine(Q8.out).mono ?_;rintro e w9 ⟨rfl,hb9⟩))
     have K9:Bk ((((((w9.setCell ⟨X4,1,E⟩ (I J k)).setCell ⟨X4,2,E⟩ (I J t)).setCell ⟨X4,3,E⟩ (C u)).setCell ⟨X4,4,E⟩ (C o)).setCell ⟨X4,5,E⟩ (I J n)).setCell ⟨X4,6,E⟩ (I J st)) X4 121 #[av,I J k,I J t,C u,C o,I J n,I J st,ax,ax,ax,av,av,av,av,ax]:=(Bk.put (Bk.put (Bk.put (Bk.put (Bk.put (Bk.put (Bl.bl hb9 HX4) 1 (I J k)) 2 (I J t)) 3 (C u)) 4 (C o)) 5 (I J n)) 6 (I J st));have L9:Bl V0 ((((((w9.setCell ⟨X4,1,E⟩ (I J k)).setCell ⟨X4,2,E⟩ (I J t)).setCell ⟨X4,3,E⟩ (C u)).setCell ⟨X4,4,E⟩ (C o)).setCell ⟨X4,5,E⟩ (I J n)).setCell ⟨X4,6,E⟩ (I J st)):=(Bl.st (Bl.st (Bl.st (Bl.st (Bl.st (Bl.st (H2.ca (H8.ca hb9)) (p:=⟨X4,1,E⟩) hX4 (I J k)) (p:=⟨X4,2,E⟩) hX4 (I J t)) (p:=⟨X4,3,E⟩) hX4 (C u)) (p:=⟨X4,4,E⟩) hX4 (C o)) (p:=⟨X4,5,E⟩) hX4 (I J n)) (p:=⟨X4,6,E⟩) hX4 (I J st));generalize ((((((w9.setCell ⟨X4,1,E⟩ (I J k)).setCell ⟨X4,2,E⟩ (I J t)).setCell ⟨X4,3,E⟩ (C u)).setCell ⟨X4,4,E⟩ (C o)).setCell ⟨X4,5,E⟩ (I J n)).setCell ⟨X4,6,E⟩ (I J st))=V9 at K9 L9 ⊢;clear x0 xf hb8 hb9 x40 x41 x42 x43 x44 x45 x46 x47 x48 x49 x410 x411 x412 x413 x414
   | have _:Tg 1:=tg
     have K9:Bk V8 X4 121 #[I J 1,av,av,ax,ax,av,av,ax,ax,ax,av,av,av,av,ax]:=HX4.out;have L9:Bl V0 V8:=H2.ca H8;clear x40 x41 x42 x43 x44 x45 x46 x47 x48 x49 x410 x411 x412 x413 x414 xf;generalize V8=V9 at*;clear P0 P1 x0 x20
   | have _:Tg 3:=tg
     have Q1:=λW (hW:Bl V8 W)=>WD 1 1 D dc W (H8.ca hW);rw[WD1.out] at Q1;replace Q1:=H Q1;clear P0 P1 x0
     go_upto_region 19 with((go_at_call 78;with_reducible refine(Q1.out _ hb8).mono ?_;rintro e w9 ⟨rfl,rfl⟩))
     have K9:Bk (V8.setCell ⟨X4,7,E⟩ (C u)) X4 121 #[I J 3,av,av,ax,ax,av,av,C u,ax,ax,av,av,av,av,ax]:=(Bk.put (Bl.bl (Bl.eH (V:=V8)) HX4) 7 (C u));have L9:Bl V0 (V8.setCell ⟨X4,7,E⟩ (C u)):=(Bl.st (H2.ca (H8.ca (Bl.eH (V:=V8)))) (p:=⟨X4,7,E⟩) hX4 (C u));generalize (V8.setCell ⟨X4,7,E⟩ (C u))=V9 at K9 L9 ⊢;clear x20 xf hb8 x40 x41 x42 x43 x44 x45 x46 x47 x48 x49 x410 x411 x412 x413 x414
   | have _:Tg 4:=tg
     rw[WD1.out] at P0;rw[WD2.out] at P1;have M3:=λW (hW:Bl V2 W)=>NM 3 3 D dc W hW;rw[N3.out] at M3;replace M3:=H M3;have M4:=λW (hW:Bl V2 W)=>NM 4 4 D dc W hW;rw[N4.out] at M4;replace M4:=H M4;have M5:=λW (hW:Bl V2 W)=>NM 5 5 D dc W hW;rw[N5.out] at M5;replace M5:=H M5;have M6:=λW (hW:Bl V2 W)=>NM 6 6 D dc W hW;rw[N6.out] at M6;replace M6:=H M6
     go_upto_region 12 with fail
     clear x0 x20;refine jI (T:=TT) (S:=(λw'=>Bl V8 w')) [10] trivial (Bl.dr Bl.eH) λhT0 hS0=>?_
     try dsimp only at hT0 hS0
     refine td 0 ?_;refine qd 1 ?_;refine qd 3 ?_;refine qd 6 ?_;refine eK 2 λKQ hK=>?_;go_simp
     (go_at_call 79;refine(M3 _ (H8.ca (hS0))).mono ?_;rintro e w9 ⟨rfl,hb9⟩)
     have hT1:=(hT0).ca hb9;have hS1:=(hS0).ca hb9;refine kq hK ?_;clear hK KQ;refine eK 4 λKQ hK=>?_;go_simp
     (go_at_call 79;refine(M4 _ (H8.ca (hS1))).mono ?_;rintro e w9 ⟨rfl,hb9⟩)
     have hT2:=(hT1).ca hb9;have hS2:=(hS1).ca hb9;refine kq hK ?_;clear hK KQ;refine qd 5 ?_;refine eK 7 λKQ hK=>?_;go_simp
     (go_at_call 79;refine(M5 _ (H8.ca (hS2))).mono ?_;rintro e w9 ⟨rfl,hb9⟩)
     have hT3:=(hT2).ca hb9;have hS3:=(hS2).ca hb9;refine kq hK ?_;clear hK KQ;refine qd 8 ?_;refine qd 9 ?_;refine eK 10 λKQ hK=>?_;go_simp;refine fJ (hK _ _) (trivial) (eI (j:=10) kr kr) (λhT4=>?_)
     try dsimp only at hT4
     clear hK KQ
     try simp only[gz,fI]
     refine iU ?_;have hL:=hS3;clear hT0 hS0;have K8:Bk (((((w9.setCell ⟨X4,8,E⟩ (C x)).setCell ⟨X4,9,E⟩ (C u)).setCell ⟨X4,10,E⟩ (I J a)).setCell ⟨X4,11,E⟩ (I J b)).setCell ⟨X4,12,E⟩ (I J t)) X4 121 #[I J 4,av,av,ax,ax,av,av,ax,C x,C u,I J a,I J b,I J t,av,ax]:=(Bk.put (Bk.put (Bk.put (Bk.put (Bk.put (Bl.bl hL HX4) 8 (C x)) 9 (C u)) 10 (I J a)) 11 (I J b)) 12 (I J t));have L8:Bl V2 (((((w9.setCell ⟨X4,8,E⟩ (C x)).setCell ⟨X4,9,E⟩ (C u)).setCell ⟨X4,10,E⟩ (I J a)).setCell ⟨X4,11,E⟩ (I J b)).setCell ⟨X4,12,E⟩ (I J t)):=(Bl.st (Bl.st (Bl.st (Bl.st (Bl.st (H8.ca hL) (p:=⟨X4,8,E⟩) hX4b (C x)) (p:=⟨X4,9,E⟩) hX4b (C u)) (p:=⟨X4,10,E⟩) hX4b (I J a)) (p:=⟨X4,11,E⟩) hX4b (I J b)) (p:=⟨X4,12,E⟩) hX4b (I J t));generalize (((((w9.setCell ⟨X4,8,E⟩ (C x)).setCell ⟨X4,9,E⟩ (C u)).setCell ⟨X4,10,E⟩ (I J a)).setCell ⟨X4,11,E⟩ (I J b)).setCell ⟨X4,12,E⟩ (I J t))=U8 at K8 L8 ⊢;clear xf hb8 hL P0 P1 x40 x41 x42 x43 x44 x45 x46 x47 x48 x49 x410 x411 x412 x413 x414;have HK8:=H K8;have HL8:=H L8;have hbu:=br U8;clear K8 L8;have R6:=H (M6 U8 HL8);obtain⟨r0,r1,r2,r3,r4,r5,r6,r7,r8,r9,r10,r11,r12,r13,r14⟩:=Bk.Ap HK8;have rf:=λW (hW:Bl U8 W) j=>Bk.fr (hW.bl HK8) j
     go_upto_region 14 with((go_at_call 79;with_reducible refine(R6.out).mono ?_;rintro e w10 ⟨rfl,hb10⟩))
     have K9:Bk (w10.setCell ⟨X4,13,E⟩ (I J m)) X4 121 #[I J 4,av,av,ax,ax,av,av,ax,C x,C u,I J a,I J b,I J t,I J m,ax]:=Bk.put (Bl.bl hb10 HK8) 13 (I J m);have L8:Bl V2 (w10.setCell ⟨X4,13,E⟩ (I J m)):=(HL8.ca hb10).st (p:=⟨X4,13,E⟩) hX4b _;generalize w10.setCell ⟨X4,13,E⟩ (I J m)=V9 at K9 L8 ⊢;have L9:Bl V0 V9:=H2.ca L8;have Q7:=WD 7 7 D dc V9 L8;rw[WD7.out] at Q7;replace Q7:=H Q7;have y21:=y20 V9 L8;clear hbu hb10 rf L8 r0 r1 r2 r3 r4 r5 r6 r7 r8 r9 r10 r11 r12 r13 r14
     go_upto_region 19 with((go_at_call 78;with_reducible refine(Q7.out).mono ?_;rintro e w11 ⟨rfl,rfl⟩))
     clear y21
   | have _:Tg 5:=tg
     rw[WD1.out] at P0;rw[WD2.out] at P1;have M3:=λW (hW:Bl V2 W)=>NM 3 3 D dc W hW;rw[N3.out] at M3;replace M3:=H M3
     go_upto_region 18 with fail
     clear x0 x20;refine jI (T:=TT) (S:=(λw'=>Bl V8 w')) [5] trivial (Bl.dr Bl.eH) λhT0 hS0=>?_
     try dsimp only at hT0 hS0
     refine td 0 ?_;refine qd 1 ?_;refine eK 2 λKQ hK=>?_;go_simp
     (go_at_call 79;refine(M3 _ (H8.ca (hS0))).mono ?_;rintro e w9 ⟨rfl,hb9⟩)
     have hT1:=(hT0).ca hb9;have hS1:=(hS0).ca hb9;refine kq hK ?_;clear hK KQ;refine qd 3 ?_;refine qd 4 ?_;refine eK 5 λKQ hK=>?_;go_simp;refine fJ (hK _ _) (trivial) (eI (j:=5) kr kr) (λhT2=>?_)
     try dsimp only at hT2
     clear hK KQ
     try simp only[gz,fI]
     refine iU ?_;have hL:=hS1;clear hT0 hS0;have K9:Bk (((((w9.setCell ⟨X4,8,E⟩ (C x)).setCell ⟨X4,9,E⟩ (C u)).setCell ⟨X4,10,E⟩ av).setCell ⟨X4,11,E⟩ av).setCell ⟨X4,12,E⟩ (I J t)) X4 121 #[I J 5,av,av,ax,ax,av,av,ax,C x,C u,av,av,I J t,av,ax]:=(Bk.put (Bk.put (Bk.put (Bk.put (Bk.put (Bl.bl hL HX4) 8 (C x)) 9 (C u)) 10 av) 11 av) 12 (I J t));have L9:Bl V0 (((((w9.setCell ⟨X4,8,E⟩ (C x)).setCell ⟨X4,9,E⟩ (C u)).setCell ⟨X4,10,E⟩ av).setCell ⟨X4,11,E⟩ av).setCell ⟨X4,12,E⟩ (I J t)):=(Bl.st (Bl.st (Bl.st (Bl.st (Bl.st (H2.ca (H8.ca hL)) (p:=⟨X4,8,E⟩) hX4 (C x)) (p:=⟨X4,9,E⟩) hX4 (C u)) (p:=⟨X4,10,E⟩) hX4 av) (p:=⟨X4,11,E⟩) hX4 av) (p:=⟨X4,12,E⟩) hX4 (I J t));generalize (((((w9.setCell ⟨X4,8,E⟩ (C x)).setCell ⟨X4,9,E⟩ (C u)).setCell ⟨X4,10,E⟩ av).setCell ⟨X4,11,E⟩ av).setCell ⟨X4,12,E⟩ (I J t))=V9 at K9 L9 ⊢;clear xf hb8 hb9 hL P0 P1 x40 x41 x42 x43 x44 x45 x46 x47 x48 x49 x410 x411 x412 x413 x414
  obtain⟨q0,q1,q2,q3,q4,q5,q6,q7,q8,q9,q10,q11,q12,q13,q14⟩:=Bk.Ap K9;have hb9':Bl V9 V9:=Bl.eH;have H9:=H L9;have W9:=H (WR V9 (HB.ca H9));clear K9 L9
  go_upto_region 21 with((go_at_call 83;with_reducible refine(W9.out).mono ?_;rintro e w10 ⟨rfl,hb10⟩))
  have HY9:=H ((H9.ca hb10).bl HY);have HB9:=H (HB.ca (H9.ca hb10));obtain⟨z0,z1,z2,z3,z4,z5,z6,z7,z8,z9,z10,z11,z12,z13,z14⟩:=Bk.f15 HY9;have zf:=λj=>Bk.fr HY9 j
  go_wp2_with fail
  exact aa1 (eM (p:=2) (a:=3) D _ _ _ _ _ _ _ D (Bk.T3 HY9 D _ _ _ _ _ _ _ _ _ _ _ _ _ _ _) underlying121 D ub) D ⟨D,Bl.T3 HB9 fD _ _ _ _ _ _ _ _ _ _ _ _ _ _ _⟩):p:=h
theorem ace (k t:Int)(u o:ay)(n st:Int)(w)(h:fL ⟨k,t,u,o,n,st⟩=Q)(hg:Gb w):aai 55 #[C (gR (lp::eD k::eD t::lI ⟨k,t,u,o,n,st⟩))] w (.tuple #[.agg #[av,I J k,I J t,C u,C o,I J n,I J st,ax,ax,ax,av,av,av,av,ax],av]):=by
 have hall:(lp::eD k::eD t::lI ⟨k,t,u,o,n,st⟩).all mh=Q:=by have c1:=(gV h).1;have hk:=kD h;dsimp only at c1 hk;rw[bD,bD,c1,jc om om];rfl
 have hty:∀ s∈(lp::eD k::eD t::lI ⟨k,t,u,o,n,st⟩),s.size<=100:=CG h;have h8:(lp::eD k::eD t::lI ⟨k,t,u,o,n,st⟩).length<=8:=by simp;have:=pQ ⟨k,t,u,o,n,st⟩;omega
 have WR:=λW (hW:Bl w W)=>Vx k t u o n st W h (hg.below hW (aB _));have WD0:iS (lp::eD k::eD t::lI ⟨k,t,u,o,n,st⟩) 0=lp:=rfl;have IXV:lH (λy=>decide (lp=y)) xA=0:=dc;have PT:=λv W (hW:Bl w W) hs=>Gt k t u o n st v W h (hg.below hW (aB _)) hs;obtain⟨F,hF⟩:=fe (lp::eD k::eD t::lI ⟨k,t,u,o,n,st⟩);rw[<-hF] at hall hty h8 WR WD0 PT ⊢;clear h;replace PT:=H PT;have tg:Tg 0:=⟨⟩;obtain⟨c0,hc⟩:=fe (0:Int);replace hc:=H hc;exact Ok
theorem acd (w)(hg:Gb w):aai 55 #[C (gR ([kg]))] w (.tuple #[.agg #[I J 1,av,av,ax,ax,av,av,ax,ax,ax,av,av,av,av,ax],av]):=by
 have hall:([kg]).all mh=Q:=dc;have hty:∀ s∈([kg]),s.size<=100:=by intro s hs;simp only[bP] at hs;subst hs;decide
 have h8:([kg]).length<=8:=sm;have WR:=λW (_:Bl w W)=>Vw W;have WD0:iS ([kg]) 0=kg:=rfl;have IXV:lH (λy=>decide (kg=y)) xA=1:=dc;obtain⟨F,hF⟩:=fe ([kg]);rw[<-hF] at hall hty h8 WR WD0 ⊢;have tg:Tg 1:=⟨⟩;obtain⟨c0,hc⟩:=fe (1:Int);replace hc:=H hc;exact Ok
theorem acb (u)(w)(h:gD u=Q)(hg:Gb w):aai 55 #[C (gR ([iB,u]))] w (.tuple #[.agg #[I J 3,av,av,ax,ax,av,av,C u,ax,ax,av,av,av,av,ax],av]):=by
 have hall:([iB,u]).all mh=Q:=by rw[bD,bD,oK h];rfl
 have hty:∀ s∈([iB,u]),s.size<=100:=by intro s hs;have:=gA h;simp only[aE,aO,aQ] at hs;rcases hs with rfl | rfl;decide;omega
 have h8:([iB,u]).length<=8:=sm;have WR:=λW (_:Bl w W)=>Vv u W h;have WD0:iS ([iB,u]) 0=iB:=rfl;have IXV:lH (λy=>decide (iB=y)) xA=3:=dc;have WD1:iS ([iB,u]) 1=u:=rfl;obtain⟨F,hF⟩:=fe ([iB,u]);rw[<-hF] at hall hty h8 WR WD0 WD1 ⊢;clear h;replace WD1:=H WD1;have tg:Tg 3:=⟨⟩;obtain⟨c0,hc⟩:=fe (3:Int);replace hc:=H hc;exact Ok
theorem aca (x u)(a b t m:Int)(w)(hx:gD x=Q)(hu:gD u=Q)(ha:fQ a=Q)(hb:fQ b=Q)(ht:fQ t=Q)(hm:1<=m/\m<=100)(hg:Gb w):aai 55 #[C (gR ([gI,x,u,eD a,eD b,eD t,eD m,gE]))] w (.tuple #[.agg #[I J 4,av,av,ax,ax,av,av,ax,C x,C u,I J a,I J b,I J t,I J m,ax],av]):=by
 have hall:([gI,x,u,eD a,eD b,eD t,eD m,gE]).all mh=Q:=by have qa:=lK ha;have qb:=lK hb;have qt:=lK ht;simp only[bD,b9,b7,oK hx,oK hu,jc qa.1 qa.2,jc qb.1 qb.2,jc qt.1 qt.2,jc (show 0<=m by omega) (show m<=1099511627776 by omega)];decide
 have hty:∀ s∈([gI,x,u,eD a,eD b,eD t,eD m,gE]),s.size<=100:=by intro s hs;have h1:=gA hx;have h2:=gA hu;have d1:=fg a;have d2:=fg b;have d3:=fg t;have d4:=fg m;simp only[aE,aO,aQ] at hs;rcases hs with rfl | rfl | rfl | rfl | rfl | rfl | rfl | rfl<;>first | omega | decide
 have h8:([gI,x,u,eD a,eD b,eD t,eD m,gE]).length<=8:=sm;have WR:=λW (hW:Bl w W)=>Vu x u a b t m W hx hu ha hb ht hm (hg.below hW (aB _));have WD0:iS ([gI,x,u,eD a,eD b,eD t,eD m,gE]) 0=gI:=rfl;have IXV:lH (λy=>decide (gI=y)) xA=4:=dc;have WD1:iS ([gI,x,u,eD a,eD b,eD t,eD m,gE]) 1=x:=rfl;have WD2:iS ([gI,x,u,eD a,eD b,eD t,eD m,gE]) 2=u:=rfl;have qa:=lK ha;have qb:=lK hb;have WD7:iS ([gI,x,u,eD a,eD b,eD t,eD m,gE]) 7=⟨#[45]⟩:=rfl;have qt:=lK ht;have N3:e8 ([gI,x,u,eD a,eD b,eD t,eD m,gE]) 3=a:=by simp only[e8,iS,cH,cI,iE qa.1 qa.2,bU]
 have N4:e8 ([gI,x,u,eD a,eD b,eD t,eD m,gE]) 4=b:=by simp only[e8,iS,cH,cI,iE qb.1 qb.2,bU]
 have N5:e8 ([gI,x,u,eD a,eD b,eD t,eD m,gE]) 5=t:=by simp only[e8,iS,cH,cI,iE qt.1 qt.2,bU]
 have N6:e8 ([gI,x,u,eD a,eD b,eD t,eD m,gE]) 6=m:=by simp only[e8,iS,cH,cI,iE (show 0<=m by omega) (show m<=1099511627776 by omega),bU]
 obtain⟨F,hF⟩:=fe ([gI,x,u,eD a,eD b,eD t,eD m,gE]);rw[<-hF] at hall hty h8 WR WD0 WD1 WD2 N3 N4 N5 N6 WD7 ⊢;clear hx hu ha hb ht hm;replace WD1:=H WD1;replace WD2:=H WD2;replace N3:=H N3;replace N4:=H N4;replace N5:=H N5;replace N6:=H N6;replace WD7:=H WD7;clear qt qa qb;have tg:Tg 4:=⟨⟩;obtain⟨c0,hc⟩:=fe (4:Int);replace hc:=H hc;exact Ok
theorem abZ (x u)(t:Int)(w)(hx:gD x=Q)(hu:gD u=Q)(ht:fQ t=Q)(hg:Gb w):aai 55 #[C (gR ([iz,x,u,eD t]))] w (.tuple #[.agg #[I J 5,av,av,ax,ax,av,av,ax,C x,C u,av,av,I J t,av,ax],av]):=by
 have hall:([iz,x,u,eD t]).all mh=Q:=by have qt:=lK ht;simp only[bD,b9,b7,oK hx,oK hu,jc qt.1 qt.2];decide
 have hty:∀ s∈([iz,x,u,eD t]),s.size<=100:=by intro s hs;have h1:=gA hx;have h2:=gA hu;have d3:=fg t;simp only[aE,aO,aQ] at hs;rcases hs with rfl | rfl | rfl | rfl<;>first | omega | decide
 have h8:([iz,x,u,eD t]).length<=8:=sm;have WR:=λW (hW:Bl w W)=>Vt x u t W hx hu ht (hg.below hW (aB _));have WD0:iS ([iz,x,u,eD t]) 0=iz:=rfl;have IXV:lH (λy=>decide (iz=y)) xA=5:=dc;have WD1:iS ([iz,x,u,eD t]) 1=x:=rfl;have WD2:iS ([iz,x,u,eD t]) 2=u:=rfl;have qt:=lK ht;have N3:e8 ([iz,x,u,eD t]) 3=t:=by simp only[e8,iS,cH,cI,iE qt.1 qt.2,bU]
 obtain⟨F,hF⟩:=fe ([iz,x,u,eD t]);rw[<-hF] at hall hty h8 WR WD0 WD1 WD2 N3 ⊢;clear hx hu ht;replace WD1:=H WD1;replace WD2:=H WD2;replace N3:=H N3;clear qt;have tg:Tg 5:=⟨⟩;obtain⟨c0,hc⟩:=fe (5:Int);replace hc:=H hc;exact Ok
end Tp
namespace Tp
open Go Go.RowKit Go.Lib CrcM FrM
def kU (e:Ev):ay:=gR (lp::eD e.kind::eD e.time::lI e)
theorem NZ {e}(h:fL e=Q):((⟨#[112,117,116,32]⟩++eD e.kind)++⟨#[32]⟩)++ph e=kU e:=by
 have hk:=kD h;have c1:=(gV h).1;have c2:(lp::eD e.kind::eD e.time::lI e).all mh=Q:=by
  rw[bD,bD,c1,jc om om];rfl
 unfold kU ph gR;rw[aA c1,aA c2];apply dE;simp only[dd];have hne:eD e.time::lI e≠[]:=sm;generalize eD e.time::lI e=an at hne ⊢;rw[show(lp::eD e.kind::an).map (·.data.toList)=lp.data.toList::(eD e.kind).data.toList::an.map (·.data.toList) from rfl];obtain⟨F,hF⟩:=fe (an.map (·.data.toList));rw[<-hF];obtain⟨x,r,rfl⟩:∃ x r,F=x::r:=by
  cases F with
  | nil=>exact absurd (List.map_eq_nil_iff.1 hF.symm) hne
  | cons x r=>exact⟨x,r,D⟩
 have hp:lp.data.toList=[112,117,116]:=rfl;rw[hp,Lib.join_cons,Lib.join_cons];unfold Lib.joinTail;simp[bs]
theorem uS (n:Int)(V W)(hW:Bl V W)(h0:0<=n)(h1:n<=1099511627776):Calls prog 33 #[I J n] W λe w'=>e= .returned (C (eD n))/\Bl V w':=by
 have DC:=H (Ix n h0 h1 V W hW)
 go_enter func33,ntmps33
 go_wp2_with (go_at_call 49;refine qx DC λw1 hb1=>?_)
 go_ret;exact⟨D,hb1⟩
theorem SH (w):Calls prog 35 #[ax] w λe w'=>e= .returned (C gE)/\w=w':=by
 go_enter func35,ntmps35
 exact gN
theorem Sd (k t:Int)(u o:ay)(n st:Int)(w)(h:fL ⟨k,t,u,o,n,st⟩=Q):aai 16 #[.agg #[av,I J k,I J t,C u,C o,I J n,I J st,ax,ax,ax,av,av,av,av,ax]] w (C (kU ⟨k,t,u,o,n,st⟩)):=by
 obtain⟨RI,FR⟩:=eN (λW=>Sn k t u o n st W h) (λW=>Gq ⟨k,t,u,o,n,st⟩ W h);have hk:=kD h;have hfs:=ny h;have hds:=fg k;dsimp only at hk;have PL:=H (NZ h);have DC:=λV W hW=>uS k V W hW om om;unfold Ev.v Ev.cells at FR;dsimp only at FR PL;obtain⟨B,hB⟩:=fe (ph ⟨k,t,u,o,n,st⟩);obtain⟨d,hd⟩:=fe (eD k);rw[<-hB] at FR PL hfs;rw[<-hd] at PL DC hds;replace DC:=H DC;have c1:¬9223372036854775807<4+d.size:=om;have c2:¬9223372036854775807<4+d.size+1:=om;have c3:¬9223372036854775807<4+d.size+1+B.size:=om;clear h hk hB hd;obtain⟨A,hA⟩:=fe w.heap.size;obtain⟨V0,hV0⟩:=fe (w.alloc (.cells #[av,I J k,I J t,C u,C o,I J n,I J st,ax,ax,ax,av,av,av,av,ax] 28));have BA:Bk V0 A 28 #[av,I J k,I J t,C u,C o,I J n,I J st,ax,ax,ax,av,av,av,av,ax]:=by rw[hV0];exact fh _ _ hA
 have HB:=H (show Bl w V0 by rw[hV0];exact gl _ _);obtain⟨a0,a1,a2,a3,a4,a5,a6,a7,a8,a9,sG,uB,a12,sQ,sP⟩:=Bk.Ap BA;have hb0:=br V0
 go_enter func16,ntmps16
 go_upto_region 1 with fail
 rw[<-hV0,<-hA];clear hV0 hA
 go_upto_region 4 with(go_at_call 4;refine qx (RI _) λw1 hb1=>?_)
 obtain⟨V2,ar,hV2,hQ,BQ,LV2⟩:=iC w1 #[ax,ax,av,av,av] 24;rw[<-hV2,<-hQ];clear hV2;replace hQ:=H hQ;obtain⟨q0,q1,q2,q3,q4⟩:=wY BQ;obtain⟨H2,H02⟩:=eN LV2 (show Bl V0 V2 from hb1.ca LV2);have hb2:Bl V0 V2:=H02.out
 go_upto_region 7 with(go_at_call 32;refine qx (FR _) λw3 hb3=>?_)
 obtain⟨V4,R,hV4,hR,BR,LV4⟩:=iC w3 #[I U (Bt k),C B] 78;rw[<-hV4,<-hR];clear hV4;replace hR:=H hR;obtain⟨r0,r1⟩:=ni BR;have H4:=H (show Bl V2 V4 from hb3.ca LV4);have b1:∀ W,Bl V4 W->_:=λW hW=>a1 W (H02.ca (H4.ca hW));refine jI (T:=Bl V4) (S:=Bl V4) [] (Bl.dr Bl.eH) (Bl.dr Bl.eH) λhT0 hS0=>?_
 try dsimp only at hT0 hS0
 refine aaa [0,1] ?_;refine td 2 ?_;refine qd 6 ?_;refine td 7 ?_;refine zB [3] (.cons D (λ_ hK=>?_) .nil);go_simp
 (go_at_call 33;refine qx (DC V4 _ hS0) λw1 hb1=>?_)
 have hT1:=hb1;have hS1:=hT1;refine kq hK ?_;refine aaa [4,5,8,9] ?_;refine iU ?_;have hL:=hS1
 go_wp2_with fail
 go_ret;exact⟨by rw[<-PL.out];rfl,HB.ca (H02.ca (H4.ca hL))⟩
theorem Sc (x u)(a b t:Int)(w)(hx:gD x=Q)(hu:gD u=Q)(ha:fQ a=Q)(hb:fQ b=Q)(ht:fQ t=Q):aai 16 #[.agg #[I J 4,av,av,ax,ax,av,av,ax,C x,C u,I J a,I J b,I J t,I J 100,ax]] w (C (gR [gI,x,u,eD a,eD b,eD t,eD 100,gE])):=by
 have zx:=gA hx;have zu:=gA hu;have NX:=λW=>fC x W om;have NU:=λW=>fC u W om;have TA:=λW=>mv a W;have TB:=λW=>mv b W;have TM:=λW=>mv t W;rw[hx] at NX;rw[hu] at NU;rw[ha] at TA;rw[hb] at TB;rw[ht] at TM;have RI:=H (λW=>Is x u a b t Q Q Q Q Q W NX NU TM TA TB);have qa:=lK ha;have qb:=lK hb;have qt:=lK ht;obtain⟨DA,DB,DT,DM⟩:=kB (λV W hW=>uS a V W hW qa.1 qa.2) (λV W hW=>uS b V W hW qb.1 qb.2) (λV W hW=>uS t V W hW qt.1 qt.2) (λV W hW=>uS 100 V W hW dc dc);have LN:=H (λW g (hB:W.heap[g]?=G (.cells #[C gI,C x,C u,C (eD a),C (eD b),C (eD t),C (eD 100),C gE] 9))=>kI [gI,x,u,eD a,eD b,eD t,eD 100,gE] (Z (G ⟨g,0,E⟩) 8 8) g W (ki _ hB D D sm (aB _)) sm (by intro s hs;have d1:=fg a;have d2:=fg b;have d3:=fg t;have d4:=fg 100;simp only[aE,aO,aQ] at hs;rcases hs with rfl | rfl | rfl | rfl | rfl | rfl | rfl | rfl<;>first | omega | decide) (by simp only[bD,b9,b7,oK hx,oK hu,jc qa.1 qa.2,jc qb.1 qb.2,jc qt.1 qt.2,jc (show(0:Int)<=100 by decide) (show(100:Int)<=1099511627776 by decide)];decide));clear qa qb qt zx zu hx hu ha hb ht;obtain⟨A,hA⟩:=fe w.heap.size;obtain⟨V0,hV0⟩:=fe (w.alloc (.cells #[I J 4,av,av,ax,ax,av,av,ax,C x,C u,I J a,I J b,I J t,I J 100,ax] 28));have BA:Bk V0 A 28 #[I J 4,av,av,ax,ax,av,av,ax,C x,C u,I J a,I J b,I J t,I J 100,ax]:=by rw[hV0];exact fh _ _ hA
 have HB:=H (show Bl w V0 by rw[hV0];exact gl _ _);obtain⟨a0,a1,a2,a3,a4,a5,a6,a7,a8,a9,sG,uB,a12,sQ,sP⟩:=Bk.Ap BA;have hb0:=br V0
 go_enter func16,ntmps16
 go_upto_region 1 with fail
 rw[<-hV0,<-hA];clear hV0 hA
 go_upto_region 4 with(go_at_call 4;refine qx (RI _) λw1 hb1=>?_)
 obtain⟨V2,ar,hV2,hQ,BQ,LV2⟩:=iC w1 #[C x,C u,I J a,I J b,I J t] 24;rw[<-hV2,<-hQ];clear hV2;replace hQ:=H hQ;obtain⟨q0,q1,q2,q3,q4⟩:=wY BQ;obtain⟨H2,H02⟩:=eN LV2 (show Bl V0 V2 from hb1.ca LV2);have hb2:Bl V0 V2:=H02.out
 go_upto_region 15 with fail
 have b13:∀ W,Bl V2 W->_:=λW hW=>sQ W (H02.ca hW);have b14:∀ W,Bl V2 W->_:=λW hW=>sP W (H02.ca hW);refine jI (T:=Bl V2) (S:=Bl V2) [] (Bl.dr Bl.eH) (Bl.dr Bl.eH) λhT0 hS0=>?_
 try dsimp only at hT0 hS0
 refine qd 0 ?_;refine td 1 ?_;refine qd 2 ?_;refine td 3 ?_;refine qd 4 ?_;refine td 5 ?_;refine qd 7 ?_;refine td 8 ?_;refine qd 10 ?_;refine td 11 ?_;refine qd 13 ?_;refine td 14 ?_;refine qd 16 ?_;refine td 17 ?_;refine zB [6] (.cons D (λ_ hK=>?_) .nil);go_simp
 (go_at_call 33;refine qx (DA V2 _ hS0) λw1 hb1=>?_)
 have hT1:=hb1;have hS1:=hT1;refine kq hK ?_;refine zB [9] (.cons D (λ_ hK=>?_) .nil);go_simp
 (go_at_call 33;refine qx (DB V2 _ hS1) λw1 hb1=>?_)
 have hT2:=hb1;have hS2:=hT2;refine kq hK ?_;refine zB [12] (.cons D (λ_ hK=>?_) .nil);go_simp
 (go_at_call 33;refine qx (DT V2 _ hS2) λw1 hb1=>?_)
 have hT3:=hb1;have hS3:=hT3;refine kq hK ?_;refine zB [15] (.cons D (λ_ hK=>?_) .nil);go_simp
 (go_at_call 33;refine qx (DM V2 _ hS3) λw1 hb1=>?_)
 have hT4:=hb1;have hS4:=hT4;refine kq hK ?_;refine zB [18] (.cons D (λ_ hK=>?_) .nil);go_simp
 (go_at_call 35;refine QS (SH _) ?_)
 have hT5:=hS4;have hS5:=hT5;refine kq hK ?_;refine zB [19] (.cons D (λ_ hK=>?_) .nil);go_simp;refine jf (hK _ _) (hT5.al _) (λhT6 hA6 hM6=>?_);clear hM6
 try dsimp only at hT6
 have hS6:=hT6
 try simp only[gz,fI]
 refine zB [20] (.cons D (λ_ hK=>?_) .nil);go_simp
 (go_at_call 34;refine QS (LN _ _ hA6) ?_)
 have hT7:=hS6;have hS7:=hT7;refine kq hK ?_;refine qd 21 ?_;refine iU ?_;have hL:=hS7
 go_wp2_with fail
 go_ret;exact⟨D,HB.ca (H02.ca hL)⟩
theorem Sb (x u)(t:Int)(w)(hx:gD x=Q)(hu:gD u=Q)(ht:fQ t=Q):aai 16 #[.agg #[I J 5,av,av,ax,ax,av,av,ax,C x,C u,av,av,I J t,av,ax]] w (C (gR [iz,x,u,eD t])):=by
 have zx:=gA hx;have zu:=gA hu;have NX:=λW=>fC x W om;have NU:=λW=>fC u W om;have TM:=λW=>mv t W;rw[hx] at NX;rw[hu] at NU;rw[ht] at TM;have RI:=H (λW=>Sm x u t Q Q Q W NX NU TM);have qt:=lK ht;obtain⟨DT,LN⟩:=eN (λV W hW=>uS t V W hW qt.1 qt.2) (λW g (hB:W.heap[g]?=G (.cells #[C iz,C x,C u,C (eD t)] 9))=>kI [iz,x,u,eD t] (Z (G ⟨g,0,E⟩) 4 4) g W (ki _ hB D D sm (aB _)) sm (by intro s hs;have d3:=fg t;simp only[aE,aO,aQ] at hs;rcases hs with rfl | rfl | rfl | rfl<;>first | omega | decide) (by simp only[bD,b9,b7,oK hx,oK hu,jc qt.1 qt.2];decide));clear qt zx zu hx hu ht;obtain⟨A,hA⟩:=fe w.heap.size;obtain⟨V0,hV0⟩:=fe (w.alloc (.cells #[I J 5,av,av,ax,ax,av,av,ax,C x,C u,av,av,I J t,av,ax] 28));have BA:Bk V0 A 28 #[I J 5,av,av,ax,ax,av,av,ax,C x,C u,av,av,I J t,av,ax]:=by rw[hV0];exact fh _ _ hA
 have HB:=H (show Bl w V0 by rw[hV0];exact gl _ _);obtain⟨a0,a1,a2,a3,a4,a5,a6,a7,a8,a9,sG,uB,a12,sQ,sP⟩:=Bk.Ap BA;have hb0:=br V0
 go_enter func16,ntmps16
 go_upto_region 1 with fail
 rw[<-hV0,<-hA];clear hV0 hA
 go_upto_region 4 with(go_at_call 4;refine qx (RI _) λw1 hb1=>?_)
 obtain⟨V2,ar,hV2,hQ,BQ,LV2⟩:=iC w1 #[C x,C u,av,av,I J t] 24;rw[<-hV2,<-hQ];clear hV2;replace hQ:=H hQ;obtain⟨q0,q1,q2,q3,q4⟩:=wY BQ;obtain⟨H2,H02⟩:=eN LV2 (show Bl V0 V2 from hb1.ca LV2);have hb2:Bl V0 V2:=H02.out
 go_upto_region 16 with fail
 refine jI (T:=Bl V2) (S:=Bl V2) [] (Bl.dr Bl.eH) (Bl.dr Bl.eH) λhT0 hS0=>?_
 try dsimp only at hT0 hS0
 refine qd 0 ?_;refine td 1 ?_;refine qd 2 ?_;refine td 3 ?_;refine qd 4 ?_;refine td 5 ?_;refine zB [6] (.cons D (λ_ hK=>?_) .nil);go_simp
 (go_at_call 33;refine qx (DT V2 _ hS0) λw1 hb1=>?_)
 have hT1:=hb1;have hS1:=hT1;refine kq hK ?_;refine zB [7] (.cons D (λ_ hK=>?_) .nil);go_simp;refine jf (hK _ _) (hT1.al _) (λhT2 hA2 hM2=>?_);clear hM2
 try dsimp only at hT2
 have hS2:=hT2
 try simp only[gz,fI]
 refine zB [8] (.cons D (λ_ hK=>?_) .nil);go_simp
 (go_at_call 34;refine QS (LN _ _ hA2) ?_)
 have hT3:=hS2;have hS3:=hT3;refine kq hK ?_;refine qd 9 ?_;refine iU ?_;have hL:=hS3
 go_wp2_with fail
 go_ret;exact⟨D,HB.ca (H02.ca hL)⟩
theorem Dw (L)(v)(b:Nat)(w)(h:Rw Ev.cs 26 6 w b v L)(hn:L.length<=1000)(hr:∀ e∈L,fL e=Q):
 Calls prog 15 #[v] w λe w'=>∃ v',e= .returned v'/\Rw qc 9 1 w' 0 v' (L.map kU)/\Bl w w':=by
 obtain⟨A,cap,rfl,hnc,hcap⟩:=h.form;have HR:=H h;obtain⟨m,hm,HM⟩:=nh L.length;rw[<-hm] at hnc hn ⊢;have HV:=H hr;clear h hm hr
 go_enter func15,ntmps15
 go_wp2_with fail
 go_loopw [8,3] (λi o wr=>∃ k:Nat,k<=m/\i= I J k/\Rw qc 9 1 wr w.heap.size o ((L.take k).map kU)/\Bl w wr) (λi _ _=>m - (intOf i).toNat)
 case atStart=>exact⟨0,aD _,D,Rw.nil,Bl.eH⟩
 case round=>
  obtain⟨k,hk,rfl,ho,hb⟩:=hrel;by_cases hlt:k<m
  ·have hk':k<L.length:=by rw[<-HM.out];exact hlt
   obtain⟨g,rfl,_,_,c0,c1,c2,c3,c4,c5⟩:=HR.FK k hk';have FT:=H (show(L.take (k+1)).map kU=(L.take k).map kU++[kU L[k]] by rw[aL hk',cz];rfl);have hlen:((L.take k).map kU).length<=k:=by rw[bg,aK];exact dM _ _
   have hx:=HV _ (aV hk');generalize L[k]=x at*;obtain⟨kk,t,u,o',n,st⟩:=x;have WR:=H (λW=>Sd kk t u o' n st W hx);obtain⟨i1,i2⟩:=ln (k:=k) (m:=m) om;obtain⟨HBk,HO⟩:=eN hb ho;obtain⟨q0,q1,q2,q3,q4,q5⟩:=uV c0 c1 c2 c3 c4 c5 wr hb;clear ho hx;dsimp only at q0 q1 q2 q3 q4 q5
   go_upto_region 5 with fail
   obtain⟨V1,an,hV1,hG,BG,LV1⟩:=iC wr #[I J kk,I J t,C u,C o',I J n,I J st] 26;rw[<-hV1,<-hG];clear hV1;replace hG:=H hG;obtain⟨g0,g1,g2,g3,g4,g5⟩:=jg BG;obtain⟨r0,r1,r2,r3,r4,r5⟩:=uV g0 g1 g2 g3 g4 g5 V1 Bl.eH
   go_wp2_with (first | (go_at_call 16;refine qx (WR _) λw2 hb2=>?_) | (at_builtin;refine fH xi D _ _ D w.heap.size D (HO.bl ((LV1.ca hb2).al _)) D (eL _ _) (y:=kU ⟨kk,t,u,o',n,st⟩) D D (AW _) om ((HBk.ca (LV1.ca hb2)).al _).size ?_;intro v7 w7 ho7 hb7))
   exact⟨⟨k+1,hlt,eB,by rw[FT.out];exact ho7,hb7 w D ((HBk.ca (LV1.ca hb2)).al _)⟩,eE⟩
  ·have ek:k=m:=om;have i1:¬(k:Int)<m:=om;have HBk:=H hb;rw[ek,HM.out,aT] at ho;have HO:=H ho;clear ho
   go_wp2_with fail
   go_ret;exact⟨_,D,HO.iD,HBk⟩
