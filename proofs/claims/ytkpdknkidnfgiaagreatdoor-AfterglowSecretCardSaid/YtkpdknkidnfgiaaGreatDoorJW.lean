/- Lemmas for AfterglowSecret: what functions of the program return; no condition. -/
import Derived.Test.YtkpdknkidnfgiaaGreatDoorJV
import Derived.Test.YtkpdknkidnfgiaaGreatDoorJU
set_option maxHeartbeats 0
set_option maxRecDepth 100000
set_option linter.unusedVariables false
open Go.Value renaming int->I,string->C,slice->Z
open Go.IntKind renaming i64->J,u8->U
open Option renaming none->E,some->G
open Bool renaming true->Q,false->z
open Go.Lib renaming hid->H
open Go.Proofs.Tryz
namespace Go.Proofs.YtkpdknkidnfgiaaGreatDoor
theorem rv{p:Prop}(h:p:=by
 exact aa1 (eM (p:=4) (a:=5) D _ _ _ _ _ _ _ D (show Bk _ (X+2) _ #[av,av,aw,aw,aw,aw] from Bk.set (Bk.set (Bk.set (Bk.set (Bk.set (Bk.set (hb5.bl HBY) 0 _) 1 _) 2 _) 3 _) 4 _) 5 _) underlying37 D iN) D ⟨jX (HB.ca hb5) om _ _ _ _ _ _,_,_,D,dc,_,lk.zero _⟩):p:=h
theorem rI{p:Prop}(h:p:=by
 have pf:=λj=>Bk.fr BY1 j
 go_wp2_with fail
 exact aa1 (eM (p:=4) (a:=5) D _ _ _ _ _ _ _ D (show Bk _ (X+2) _ #[av,av,aw,aw,aw,aw] from Bk.set (Bk.set (Bk.set (Bk.set (Bk.set (Bk.set BY1 0 _) 1 _) 2 _) 3 _) 4 _) 5 _) underlying37 D iN) D ⟨jX HW1 om _ _ _ _ _ _,_,_,D,hE,_,lk.zero _⟩):p:=h
theorem l6{p:Prop}(h:p:=by
 go_wp2_with fail
 exact⟨⟨k+1,om,om,by go_num,_,HO,HQ,om,HBk⟩,by simp[intOf];omega⟩):p:=h
theorem abp{p:Prop}(h:p:=by
 go_wp2_with fail
 exact⟨⟨j,om,om,by go_num,_,D,HE⟩,by simp[intOf]⟩):p:=h
theorem qO{p:Prop}(h:p:=by
 go_wp2_with (at_builtin;refine fH UR D _ _ D w.heap.size D (HO.bl (LV1.al _)) D (eL _ _) (y:=x) D D (Ha _) om ((HBk.ca LV1).al _).size ?_;intro v7 w7 ho7 hb7)
 exact⟨⟨k+1,hlt,by go_num,by rw[FN.out];exact ho7,hb7 w D ((HBk.ca LV1).al _)⟩,by simp[intOf];omega⟩):p:=h
variable {a u:ByteArray} {B X Y b b' bytes cap j k m n n0 sz:Nat} {t t2:TypeId} {v' v9 vo vs vt vu:Value} {V W W' w w':World}
namespace Tp
open Go Go.RowKit Go.Lib
open Ds.DkM (bf gj)
abbrev UP:=UC×List eP
def UP.VH (p:UP):il:=⟨p.1.u,p.2⟩
structure mU (w:World)(vo vu vs vt:Value)(s:St)(P:List UP):Prop where
 ho:Rw fl.cs 189 4 w 0 vo s.op
 hu:Rw UC.cs 200 2 w 0 vu (P.map (·.1))
 hp:s.us=P.map UP.VH
 hl:∀ p∈P,Rw eP.cs 58 4 w 0 (Z p.1.A p.1.n p.1.c) p.2
 hs:Rw Sub.cs 196 4 w 0 vs s.sb
 ht:Rw gb.cs 202 2 w 0 vt s.tb
theorem mU.nr {w}{vo vu vs vt}{s}{P}(h:mU w vo vu vs vt s P):type_of% (aJ h.ho.fR (aJ h.hu.fR (aJ h.hs.fR h.ht.fR))):=aJ h.ho.fR (aJ h.hu.fR (aJ h.hs.fR h.ht.fR))
theorem mU.bl{s}{P}(h:mU w vo vu vs vt s P)(hb:Bl w W):mU W vo vu vs vt s P:=
 ⟨h.ho.bl hb,h.hu.bl hb,h.hp,λp hp=>(h.hl p hp).bl hb,h.hs.bl hb,h.ht.bl hb⟩
def lk (w:World)(v:Value)(s:St):Prop:=∃ vo vu vs vt P,v=jd s vo vu vs vt/\mU w vo vu vs vt s P
theorem lk.bl{v}{s}(h:lk w v s)(hb:Bl w W):lk W v s:=
 let⟨vo,vu,vs,vt,P,e,k⟩:=h;⟨vo,vu,vs,vt,P,e,k.bl hb⟩
structure Nm (s:St):Prop where
 us:∀ y∈s.us,y.u.size<=1000000
 sb:∀ y∈s.sb,y.w.size<=1000000/\y.u.size<=1000000
 tb:∀ y∈s.tb,y.u.size<=1000000
theorem xP {α β:Type}{key:α->ay}{key':β->ay}{f:α->β}(hk:∀ x,key' (f x)=key x)(lt:ay->ay->Bool)(u)(e:α):∀ (L:List α) (d:Bool),(iV key lt u e d L).map f=iV key' lt u (f e) d (L.map f)
 | [],d=>by unfold iV;cases d<;>rfl
 | y::r,d=>by
   have h1:=λd=>xP hk lt u e r d;rw[bC];unfold iV;rw[hk y]
   split
   ·split
    ·rw[bC,h1]
    ·rw[bC,bC,h1]
   ·split
    ·cases d
     ·simp[h1]
     ·simp[h1]
    ·rw[bC,h1]
theorem Dz {α:Type}{key:α->ay}{lt:ay->ay->Bool}{u}{e:α}:∀ {L:List α} {d:Bool} {x:α},x∈iV key lt u e d L->x=e∨x∈L
 | [],d,x,h=>by
   unfold iV at h;cases d
   ·exact .inl fc
   ·simp at h
 | y::r,d,x,h=>by
   have ih:=λd h=>Dz (key:=key) (lt:=lt) (u:=u) (e:=e) (L:=r) (d:=d) (x:=x) h;have fin:∀ d,x∈iV key lt u e d r->x=e∨x∈y::r:=λd h=>(ih d h).imp id λh=>cV _ h;unfold iV at h
   split at h
   ·rcases aE.1 h with rfl | h
    ·exact .inl D
    ·split at h
     ·exact fin _ h
     ·rcases aE.1 h with rfl | h
      ·exact .inr sm
      ·exact fin _ h
   ·split at h
    ·cases d
     ·simp only[dw,if_false] at h;rcases aE.1 h with rfl | h
      ·exact .inl D
      ·exact fin _ h
     ·simp only[if_true] at h;exact fin _ h
    ·rcases aE.1 h with rfl | h
     ·exact .inr sm
     ·exact fin _ h
theorem Om {L:List il}(hk:k<L.length):kR (L.drop k) u=if L[k].u=u then L[k].l else kR (L.drop (k+1)) u:=by
 rw[aR hk,kR]
theorem Nz (s)(vo vu vs vt)(P)(u:ay)(w)(h:mU w vo vu vs vt s P):
 Calls prog 175 #[jd s vo vu vs vt,C u] w λe w'=>∃ v',e= .returned v'/\Rw eP.cs 58 4 w' 0 v' (kR s.us u)/\Bl w w':=by
 obtain⟨A,cap,rfl,hnc,hcap⟩:=h.hu.form;obtain⟨A1,m1,c1,rfl⟩:=h.ho.fR;obtain⟨A2,m2,c2,rfl⟩:=h.hs.fR;obtain⟨A3,m3,c3,rfl⟩:=h.ht.fR;obtain⟨m,hm,HM⟩:=nh P.length;obtain⟨HUS,HPL⟩:=eN h.hp h.hl;have hu:=h.hu;rw[bg,<-hm] at hnc hu ⊢;unfold jd;obtain⟨X,V,hX,hV,BX,HB,HXw,SV⟩:=gC w #[I J s.now,I J s.fb,Z A1 m1 c1,Z A m cap,Z A2 m2 c2,Z A3 m3 c3] 37;obtain⟨x0,x1,x2,x3,x4,x5⟩:=jg BX;have HR:=H (hu.bl HB);clear h hm hu
 go_enter func175,ntmps175
 go_upto_region 1 with fail
 rw[<-hV,<-hX];clear hV hX
 go_wp2_with fail
 go_loopw [5] (λi wr=>∃ k:Nat,k<=m/\i= I J k/\Hid (kR s.us u=kR (s.us.drop k) u)/\Bl V wr) (λi _=>m - (intOf i).toNat)
 case atStart=>exact⟨0,aD _,D,H D,Bl.eH⟩
 case round=>
  obtain⟨k,hk,rfl,hd,hb⟩:=hrel;have p3:=x3 wr hb;by_cases hlt:k<m
  ·have hk':k<P.length:=by rw[<-HM.out];exact hlt
   have hk1:k<(P.map (·.1)).length:=by simpa using hk'
   obtain⟨g,rfl,_,_,c0w,c1w⟩:=HR.Cm (f:=UC.cs) (c0:=λx=>C x.u) (c1:=λx=>Z x.A x.n x.c) (λ_=>rfl) k hk1;rw[List.getElem_map] at c0w c1w;have OD:=Om (L:=s.us) (u:=u) (k:=k) (by rw[HUS.out];simpa using hk');rw[show s.us[k]'(by rw[HUS.out];simpa using hk')=(P[k]).VH by simp[HUS.out]] at OD;replace OD:=H OD;have PK:=H (HPL P[k] (aV hk'));generalize P[k]=x at*;obtain⟨q0,q1⟩:=xV c0w c1w wr hb;obtain⟨i1,i2⟩:=ln (k:=k) (m:=m) om;have E1:(x.1.u.toList==u.toList)=decide (x.1.u=u):=gS;have HBk:=H hb;clear c0w c1w;by_cases hx:x.1.u=u
   ·rw[aF hx] at E1;have FN:=H (show kR s.us u=x.2 by rw[hd.out,OD.out,aA (show x.VH.u=u from hx)];rfl);clear hx
    go_wp2_with fail
    go_ret;exact⟨_,D,by rw[FN.out];exact PK.bl (HB.ca HBk),HB.ca HBk⟩
   ·rw[aC hx] at E1;have FN:=H (show kR s.us u=kR (s.us.drop (k+1)) u by rw[hd.out,OD.out,az (show ¬x.VH.u=u from hx)]);clear hx
    go_wp2_with fail
    exact⟨⟨k+1,hlt,eB,FN,HBk⟩,eE⟩
  ·have i1:¬(k:Int)<m:=om;obtain⟨FN,HBk⟩:=eN (show kR s.us u=[] by rw[hd.out,bR (by rw[HUS.out,bg,<-HM.out];omega)];rfl) hb
   go_wp2_with fail
   go_ret;exact⟨_,D,by rw[FN.out];exact Rw.nil,HB.ca HBk⟩
theorem iN:(prog.info? 37).map (·.size)=G 6:=kr
theorem mU.put{s}{P}(h:mU w vo vu vs vt s P)(hb:Bl w W){S:List eP}{A0}{c0:Nat}{d:Bool}(hS:n0=S.length/\(S=[]∨Rw eP.cs 58 4 W 0 (Z A0 n0 c0) S))(hd:d=decide (n0=0))
 (h9:Rw UC.cs 200 2 W 0 v9 (iV UC.u bf u ⟨u,A0,n0,c0⟩ d (P.map (·.1)))):∃ P',mU W vo v9 vs vt {s with us:=tj bf u S d s.us} P':=by
 refine⟨iV (λp:UP=>p.1.u) bf u (⟨u,A0,n0,c0⟩,S) d P,h.ho.bl hb,?_,?_,λp hp=>?_,h.hs.bl hb,h.ht.bl hb⟩
 ·rw[xP (key:=λp:UP=>p.1.u) (key':=UC.u) (f:=λp:UP=>p.1) (λ_=>rfl)];exact h9
 ·show tj bf u S d s.us=_;rw[xP (key:=λp:UP=>p.1.u) (key':=il.u) (f:=UP.VH) (λ_=>rfl),h.hp];rfl
 ·rcases hS.2 with h0 | h0
  ·have hd1:d=Q:=by rw[hd,hS.1,h0];rfl
   rw[hd1,oY] at hp;exact(h.hl p (aa9.1 hp).1).bl hb
  ·rcases Dz hp with rfl | hp
   ·exact h0
   ·exact(h.hl p hp).bl hb
theorem mU.fw{s}{P}(h:mU w vo vu vs vt s P){cs}(hB:Bk w X 37 cs)(i:Nat)(v):mU (w.setCell ⟨X,i,E⟩ v) vo vu vs vt s P:=
 ⟨h.ho.fw hB dc _,h.hu.fw hB dc _,h.hp,λp hp=>(h.hl p hp).fw hB dc _,h.hs.fw hB dc _,h.ht.fw hB dc _⟩
theorem mU.pP{s}{P}(h:mU w vo vu vs vt s P){cs}(hB:Bk w X 37 cs)(a b c d e f:Value):
 mU ((((((w.setCell ⟨X,0,E⟩ a).setCell ⟨X,1,E⟩ b).setCell ⟨X,2,E⟩ c).setCell ⟨X,3,E⟩ d).setCell ⟨X,4,E⟩ e).setCell ⟨X,5,E⟩ f) vo vu vs vt s P:=
 (((((h.fw hB 0 a).fw (hB.set 0 _) 1 b).fw ((hB.set 0 _).set 1 _) 2 c).fw (((hB.set 0 _).set 1 _).set 2 _) 3 d).fw ((((hB.set 0 _).set 1 _).set 2 _).set 3 _) 4 e).fw (((((hB.set 0 _).set 1 _).set 2 _).set 3 _).set 4 _) 5 f
theorem jX(h:Bl w V)(hY:w.heap.size<=Y)(a b c d e f:Value):Bl w ((((((V.setCell ⟨Y,0,E⟩ a).setCell ⟨Y,1,E⟩ b).setCell ⟨Y,2,E⟩ c).setCell ⟨Y,3,E⟩ d).setCell ⟨Y,4,E⟩ e).setCell ⟨Y,5,E⟩ f):=
 (((((h.st (p:=⟨Y,0,E⟩) hY a).st (p:=⟨Y,1,E⟩) hY b).st (p:=⟨Y,2,E⟩) hY c).st (p:=⟨Y,3,E⟩) hY d).st (p:=⟨Y,4,E⟩) hY e).st (p:=⟨Y,5,E⟩) hY f
theorem xO (s)(v)(u:ay)(x:eP)(w)(h:lk w v s)(hn:s.us.length<=1000)(hl:∀ y∈s.us,y.l.length<=1000)(hu:u.size<=1000000)(hN:∀ y∈s.us,y.u.size<=1000000):
 Calls prog 105 #[v,C u,x.v] w λe w'=>∃ v',e= .returned v'/\lk w' v' {s with us:=tv bf s.us u x}/\Bl w w':=by
 obtain⟨vo,vu,vs,vt,P,rfl,hR⟩:=h;have OF:=H (λW (hW:Bl w W)=>Nz s vo vu vs vt P u W (hR.bl hW));have hol:(kR s.us u).length<=90000:=by
  have key:∀ l:List il,(∀ y∈l,y.l.length<=1000)->(kR l u).length<=1000:=by
   intro l
   induction l with
   | nil=>simp[kR]
   | cons y r ih=>
    intro h1;unfold kR
    split
    ·exact h1 y sm
    ·exact ih λau hz=>h1 au (by simp[hz])
  have:=key _ hl;omega
 obtain⟨AD,PU⟩:=eN (λ(v5:Value) W (h5:Rw eP.cs 58 4 W 0 v5 (kR s.us u))=>Dv (kR s.us u) x v5 0 W h5 hol) (λ(A0:Option Addr) (n0 c0:Nat) W (hW:Bl w W)=>zv (P.map (·.1)) u A0 n0 c0 vu 0 W (hR.hu.bl hW) (by have:=aP List.length hR.hp;rw[bg] at this ⊢;omega) hu (λy hy=>by
  obtain⟨p,hp,rfl⟩:=bI.1 hy;have h1:=hN p.VH (by rw[hR.hp];exact List.mem_map_of_mem hp);exact h1))
 have HRR:=H hR;obtain⟨⟨A1,m1,c1,rfl⟩,⟨A,m,cap,rfl⟩,⟨A2,m2,c2,rfl⟩,A3,m3,c3,rfl⟩:=hR.nr;simp only[jd] at OF;simp only[eP.v] at AD;unfold jd eP.v;obtain⟨X,V,hX,hV,BX,BS,BY,HB,HXw,SV⟩:=qh w #[I J s.now,I J s.fb,Z A1 m1 c1,Z A m cap,Z A2 m2 c2,Z A3 m3 c3] 37 #[I J x.a,I J x.b,I J x.n,I J x.st] 58 #[av,av,aw,aw,aw,aw] 37;obtain⟨x0,x1,x2,x3,x4,x5⟩:=jg BX;obtain⟨s0,s1,s2,s3⟩:=pw BS;obtain⟨y0,y1,y2,y3,y4,y5⟩:=jg BY;obtain⟨HBX,HBY⟩:=eN BX BY;have hXw:w.heap.size<=X:=by have:=HXw.out;omega
 have hb0:=br V;by_cases hok:x.a<x.b
 ·have i1:x.b>x.a:=hok
  go_enter func105,ntmps105
  go_upto_region 1 with fail
  rw[<-hV,<-hX];clear hV hX
  go_upto_region 2 with fail
  refine jI (T:=Bl w) (S:=Bl V) [10] HB.dr Bl.eH.dr λhT0 hS0=>?_
  try dsimp only at hT0 hS0
  refine qd 0 ?_;refine td 1 ?_;refine qd 2 ?_;refine td 3 ?_;refine qd 4 ?_;refine td 6 ?_;refine eK 5 λKQ hK=>?_;go_simp
  (go_at_call 175;refine aaj (OF _ (HB.ca hS0)) λv5 w5 hr5 hb5=>?_)
  obtain⟨A5,n5,c5,rfl⟩:=hr5.fR;have hT1:=hT0.ca hb5;have hS1:=hS0.ca hb5;refine kq hK ?_;refine eK 7 λKQ hK=>?_;go_simp
  (go_at_call 28;refine aaj (AD _ _ hr5) λv7 w7 hr7 hb7=>?_)
  obtain⟨A7,c7,rfl,_,_⟩:=hr7.form;have hT2:=hT1.ca hb7;have hS2:=hS1.ca hb7;refine kq hK ?_;refine eK 8 λKQ hK=>?_;go_simp
  (go_at_call 67;refine aaj (PU _ _ _ _ (HB.ca hS2)) λv9 w9 hr9 hb9=>?_)
  have hS3:=hS2.ca hb9;have HS9:=H hS3;have y3:=x3 w9 hS3;have yf:=λj=>Bk.fr (hS3.bl HBX) j;obtain⟨A9,n9,c9,rfl⟩:=hr9.fR;have HR9:=H (aJ hr9 (hr7.bl hb9));have hT4:=hT2.ca hb9;have hS4:=hS2.ca hb9;refine kq hK ?_;refine qd 9 ?_;refine eK 10 λKQ hK=>?_;go_simp;refine fJ (hK _ _) (Bl.st hT4 (p:=⟨_,_,E⟩) hXw _) (eI (j:=10) kr kr) (λhT5=>?_)
  try dsimp only at hT5
  try simp only[gz,fI]
  refine iU ?_;obtain⟨W1,hW1⟩:=fe (w9.setCell ⟨X,3,E⟩ (Z A9 n9 c9));rw[<-hW1];have BX1:Bk W1 X 37 #[I J s.now,I J s.fb,Z A1 m1 c1,Z A9 n9 c9,Z A2 m2 c2,Z A3 m3 c3]:=by rw[hW1];exact Bk.set (HS9.bl HBX) 3 _
  have BY1:Bk W1 (X+2) 37 #[av,av,aw,aw,aw,aw]:=by rw[hW1];exact(aa0 w9 ⟨X,3,E⟩ _ (X+2) (show X+2≠X by omega)).trans (HS9.bl HBY)
  obtain⟨HW1,HRN⟩:=eN (show Bl w W1 by rw[hW1];exact(HB.ca HS9).st (p:=⟨X,3,E⟩) hXw _) (show ∃ P',mU W1 (Z A1 m1 c1) (Z A9 n9 c9) (Z A2 m2 c2) (Z A3 m3 c3) {s with us:=tv bf s.us u x} P' by
   have e:tv bf s.us u x=tj bf u (mQ (kR s.us u) x) z s.us:=by unfold tv;rw[aA (show x.ok=Q from aF hok)]
   have e2:pV (kR s.us u) x=mQ (kR s.us u) x:=by unfold pV;rw[aA (show x.ok=Q from aF hok)]
   obtain⟨h9,h7⟩:=HR9.out;rw[e2] at h9 h7;have hne:decide ((mQ (kR s.us u) x).length=0)=z:=aC (by rw[yp];omega);rw[hne] at h9;obtain⟨P',hP⟩:=HRR.put (HB.ca HS9) ⟨D,.inr h7⟩ hne.symm h9;rw[e,hW1];exact⟨P',hP.fw (HS9.bl HBX) _ _⟩)
  obtain⟨q0,q1,q2,q3,q4,q5⟩:=jF BX1;obtain⟨p0,p1,p2,p3,p4,p5⟩:=jF BY1;have pf:=λj=>Bk.fr BY1 j;clear hW1
  go_wp2_with fail
  obtain⟨P',hP'⟩:=HRN.out;exact aa1 (eS (p:=6) D _ _ _ _ _ _ _ D (show Bk _ (X+2) _ #[I J s.now,I J s.fb,Z A1 m1 c1,Z A9 n9 c9,Z A2 m2 c2,Z A3 m3 c3] from Bk.set (Bk.set (Bk.set (Bk.set (Bk.set (Bk.set BY1 0 _) 1 _) 2 _) 3 _) 4 _) 5 _) underlying37 D iN) D ⟨_,D,⟨_,_,_,_,P',D,hP'.pP BY1 _ _ _ _ _ _⟩,jX HW1 om _ _ _ _ _ _⟩
 ·have i1:¬x.b>x.a:=hok;have HA:=H (show({s with us:=tv bf s.us u x}:St)=s by unfold tv;rw[az (show ¬x.ok=Q from λhh=>hok (bo hh))])
  go_enter func105,ntmps105
  go_upto_region 1 with fail
  rw[<-hV,<-hX];clear hV hX
  go_upto_region 3 with fail
  obtain⟨q0,q1,q2,q3,q4,q5⟩:=uV x0 x1 x2 x3 x4 x5 V Bl.eH;obtain⟨p0,p1,p2,p3,p4,p5⟩:=uV y0 y1 y2 y3 y4 y5 V Bl.eH;have pf:=λj=>Bk.fr HBY j
  go_wp2_with fail
  exact aa1 (eS (p:=6) D _ _ _ _ _ _ _ D (show Bk _ (X+2) _ #[I J s.now,I J s.fb,Z A1 m1 c1,Z A m cap,Z A2 m2 c2,Z A3 m3 c3] from Bk.set (Bk.set (Bk.set (Bk.set (Bk.set (Bk.set HBY 0 _) 1 _) 2 _) 3 _) 4 _) 5 _) underlying37 D iN) D ⟨_,D,by rw[HA.out];exact lk.bl ⟨_,_,_,_,P,D,HRR⟩ (jX HB om _ _ _ _ _ _),jX HB om _ _ _ _ _ _⟩
theorem Mf.yes {L R}{n t:Int}{e}(h:Mf L n u t R w e w'){x}(hx:kC L n=G x)(hu:x.u=u):∃ v',e= .returned (.tuple #[v',(x.stay t).v,av])/\Rw fl.cs 189 4 w' 0 v' R/\Bl w w':=by
 obtain⟨hb,⟨y,hy,_,v',he,hr⟩ | ⟨hno,_⟩⟩:=h
 ·rw[hx] at hy;injection hy with hy
  subst hy;exact⟨v',he,hr,hb⟩
 ·exact absurd hu (hno x hx)
theorem Mf.no {L R}{n t:Int}{e}(h:Mf L n u t R w e w')(hn:∀ x,kC L n=G x->x.u≠u):∃ (s:eP) (ak:Int),ak≠0/\e= .returned (.tuple #[aw,s.v,I J ak])/\Bl w w':=by
 obtain⟨hb,⟨y,hy,hu,_⟩ | ⟨_,s,ak,hE,he⟩⟩:=h
 ·exact absurd hu (hn y hy)
 ·exact⟨s,ak,hE,he,hb⟩
def Mg (o:Option St)(w:World)(e:Ending)(w':World):Prop:=
 Bl w w'/\∃ (v':Value) (ak:Int),e= .returned (.tuple #[v',I J ak])/\(match o with | some s'=>ak=0/\lk w' v' s' | none=>ak≠0/\∃ s',lk w' v' s')
def p9 (s:St)(k t:Int)(u:ay)(n st:Int):Option St:=
 if k=1 then(if(kC s.op n).isSome=Q∨16<=s.op.length then E else G {s with op:=oC s.op ⟨n,u,st,t⟩})
 else match kC s.op n with
  | none=>E
  | some x=>if x.u=u then G {s with op:=if k=2 then yP s.op n st t else tS s.op n,us:=tv bf s.us u (x.stay t)} else E
theorem mU.sS{s}{P}(h:mU w vo vu vs vt s P)(hb:Bl w W){O}(h9:Rw fl.cs 189 4 W 0 v9 O):mU W v9 vu vs vt {s with op:=O} P:=
 ⟨h9,h.hu.bl hb,h.hp,λp hp=>(h.hl p hp).bl hb,h.hs.bl hb,h.ht.bl hb⟩
theorem ZZ (s)(v)(t:Int)(u o:ay)(n st:Int)(w)(h:lk w v s)(hn:s.op.length<=1000):
 Calls prog 62 #[v,.agg #[I J 1,I J t,C u,C o,I J n,I J st]] w (Mg (p9 s 1 t u n st) w):=by
 obtain⟨vo,vu,vs,vt,P,rfl,hR⟩:=h;have OP:=λW (hW:Bl w W)=>Kb s.op ⟨n,u,st,t⟩ vo 0 W (hR.ho.bl hW) om;unfold fl.v at OP;have HRR:=H hR;obtain⟨⟨A1,m1,c1,rfl⟩,⟨A,m,cap,rfl⟩,⟨A2,m2,c2,rfl⟩,A3,m3,c3,rfl⟩:=hR.nr;unfold jd;obtain⟨X,V,hX,hV,BX,BS,BY,HB,HXw,SV⟩:=qh w #[I J s.now,I J s.fb,Z A1 m1 c1,Z A m cap,Z A2 m2 c2,Z A3 m3 c3] 37 #[I J 1,I J t,C u,C o,I J n,I J st] 26 #[av,av,aw,aw,aw,aw] 37;obtain⟨x0,x1,x2,x3,x4,x5⟩:=jg BX;obtain⟨s0,s1,s2,s3,s4,s5⟩:=jg BS;obtain⟨y0,y1,y2,y3,y4,y5⟩:=jg BY;obtain⟨HBX,HBY⟩:=eN BX BY;have hXw:w.heap.size<=X:=by have:=HXw.out;omega
 have hb0:=br V;clear hR;by_cases hbad:(kC s.op n).isSome=Q∨16<=s.op.length
 ·have OB:=H (λW (hW:Bl w W)=>(OP W hW).mono (λe w' h=>(show ∃ ak:Int,ak≠0/\e= .returned (.tuple #[aw,I J ak])/\Bl W w' from by
   obtain⟨hb,⟨_,ak,hE,he⟩ | ⟨hg,_⟩⟩:=h
   ·exact⟨ak,hE,he,hb⟩
   ·exact absurd hbad hg)))
  have HO:=H (show p9 s 1 t u n st=E by unfold p9;rw[aA D,aA hbad]);clear hbad
  go_enter func62,ntmps62
  go_upto_region 1 with fail
  rw[<-hV,<-hX];clear hV hX
  go_upto_region 3 with(go_at_call 102;refine(OB _ HB).mono ?_;rintro e w5 ⟨ak,hE,rfl,hb5⟩;have h9:=(show Rw fl.cs 189 4 w5 0 aw ([]:List fl) from Rw.nil);have y2x:=x2 w5 hb5;have yf:=λj=>Bk.fr (hb5.bl HBX) j)
  go_upto_region 4 with fail
  obtain⟨W1,hW1⟩:=fe (w5.setCell ⟨X,2,E⟩ aw);rw[<-hW1];have BX1:Bk W1 X 37 #[I J s.now,I J s.fb,aw,Z A m cap,Z A2 m2 c2,Z A3 m3 c3]:=by rw[hW1];exact Bk.set (hb5.bl HBX) 2 _
  have BY1:Bk W1 (X+2) 37 #[av,av,aw,aw,aw,aw]:=by rw[hW1];exact(aa0 w5 ⟨X,2,E⟩ _ (X+2) (show X+2≠X by omega)).trans (hb5.bl HBY)
  obtain⟨HW1,HRN⟩:=eN (show Bl w W1 by rw[hW1];exact(HB.ca hb5).st (p:=⟨X,2,E⟩) hXw _) (show mU W1 aw (Z A m cap) (Z A2 m2 c2) (Z A3 m3 c3) {s with op:=_} P from by rw[hW1];exact(HRR.sS (HB.ca hb5) h9).fw (hb5.bl HBX) _ _);obtain⟨q0,q1,q2,q3,q4,q5⟩:=jF BX1;obtain⟨p0,p1,p2,p3,p4,p5⟩:=jF BY1;have pf:=λj=>Bk.fr BY1 j;clear hW1 y2x
  go_wp2_with fail
  exact aa1 (eM (p:=4) (a:=5) D _ _ _ _ _ _ _ D (show Bk _ (X+2) _ #[I J s.now,I J s.fb,aw,Z A m cap,Z A2 m2 c2,Z A3 m3 c3] from Bk.set (Bk.set (Bk.set (Bk.set (Bk.set (Bk.set BY1 0 _) 1 _) 2 _) 3 _) 4 _) 5 _) underlying37 D iN) D ⟨jX HW1 om _ _ _ _ _ _,_,ak,D,by rw[HO.out];exact⟨hE,{s with op:=([]:List fl)},_,_,_,_,P,D,HRN.pP BY1 _ _ _ _ _ _⟩⟩
 ·have OG:=H (λW (hW:Bl w W)=>(OP W hW).mono (λe w' h=>(show ∃ v',e= .returned (.tuple #[v',av])/\Rw fl.cs 189 4 w' 0 v' (oC s.op ⟨n,u,st,t⟩)/\Bl W w' from by
   obtain⟨hb,⟨hg,_⟩ | ⟨_,v',he,hr⟩⟩:=h
   ·exact absurd hg hbad
   ·exact⟨v',he,hr,hb⟩)))
  have HO:=H (show p9 s 1 t u n st=G {s with op:=oC s.op ⟨n,u,st,t⟩} by unfold p9;rw[aA D,az hbad]);clear hbad
  go_enter func62,ntmps62
  go_upto_region 1 with fail
  rw[<-hV,<-hX];clear hV hX
  go_upto_region 3 with(go_at_call 102;refine aaj (OG _ HB) λv5 w5 h9 hb5=>?_;have y2x:=x2 w5 hb5;have yf:=λj=>Bk.fr (hb5.bl HBX) j)
  obtain⟨A9,n9,c9,rfl⟩:=h9.fR
  go_upto_region 4 with fail
  obtain⟨W1,hW1⟩:=fe (w5.setCell ⟨X,2,E⟩ (Z A9 n9 c9));rw[<-hW1];have BX1:Bk W1 X 37 #[I J s.now,I J s.fb,Z A9 n9 c9,Z A m cap,Z A2 m2 c2,Z A3 m3 c3]:=by rw[hW1];exact Bk.set (hb5.bl HBX) 2 _
  have BY1:Bk W1 (X+2) 37 #[av,av,aw,aw,aw,aw]:=by rw[hW1];exact(aa0 w5 ⟨X,2,E⟩ _ (X+2) (show X+2≠X by omega)).trans (hb5.bl HBY)
  obtain⟨HW1,HRN⟩:=eN (show Bl w W1 by rw[hW1];exact(HB.ca hb5).st (p:=⟨X,2,E⟩) hXw _) (show mU W1 (Z A9 n9 c9) (Z A m cap) (Z A2 m2 c2) (Z A3 m3 c3) {s with op:=_} P from by rw[hW1];exact(HRR.sS (HB.ca hb5) h9).fw (hb5.bl HBX) _ _);obtain⟨q0,q1,q2,q3,q4,q5⟩:=jF BX1;obtain⟨p0,p1,p2,p3,p4,p5⟩:=jF BY1;have pf:=λj=>Bk.fr BY1 j;clear hW1 y2x
  go_wp2_with fail
  exact aa1 (eM (p:=4) (a:=5) D _ _ _ _ _ _ _ D (show Bk _ (X+2) _ #[I J s.now,I J s.fb,Z A9 n9 c9,Z A m cap,Z A2 m2 c2,Z A3 m3 c3] from Bk.set (Bk.set (Bk.set (Bk.set (Bk.set (Bk.set BY1 0 _) 1 _) 2 _) 3 _) 4 _) 5 _) underlying37 D iN) D ⟨jX HW1 om _ _ _ _ _ _,_,0,D,by rw[HO.out];exact⟨D,_,_,_,_,P,D,HRN.pP BY1 _ _ _ _ _ _⟩⟩
theorem O2:(∀ (s:St) (v:Value) (t:Int) (u o:ay) (n st:Int) (x:fl) (hx:kC s.op n=G x) (hxu:x.u=u) (w:World) (h:lk w v s) (hn:s.us.length<=1000) (hl:∀ y∈s.us,y.l.length<=1000) (hu:u.size<=1000000) (hN:∀ y∈s.us,y.u.size<=1000000) (ho:s.op.length<=1000),Calls prog 62 #[v,.agg #[I J 3,I J t,C u,C o,I J n,I J st]] w (Mg (G {s with op:=tS s.op n,us:=tv bf s.us u (x.stay t)}) w))/\
 (∀ (s:St) (v:Value) (t:Int) (u o:ay) (n st:Int) (hno:∀ x,kC s.op n=G x->x.u≠u) (w:World) (h:lk w v s) (hn:s.us.length<=1000) (hl:∀ y∈s.us,y.l.length<=1000) (hu:u.size<=1000000) (hN:∀ y∈s.us,y.u.size<=1000000) (ho:s.op.length<=1000),Calls prog 62 #[v,.agg #[I J 3,I J t,C u,C o,I J n,I J st]] w (Mg E w))/\
 (∀ (s:St) (v:Value) (t:Int) (u o:ay) (n st:Int) (x:fl) (hx:kC s.op n=G x) (hxu:x.u=u) (w:World) (h:lk w v s) (hn:s.us.length<=1000) (hl:∀ y∈s.us,y.l.length<=1000) (hu:u.size<=1000000) (hN:∀ y∈s.us,y.u.size<=1000000) (ho:s.op.length<=1000),Calls prog 62 #[v,.agg #[I J 2,I J t,C u,C o,I J n,I J st]] w (Mg (G {s with op:=yP s.op n st t,us:=tv bf s.us u (x.stay t)}) w)):=by
 refine⟨?_,?_,?_⟩;intro s v t u o n st x hx hxu w h hn hl hu hN ho;rotate_left;intro s v t u o n st hno w h hn hl hu hN ho;rotate_left;intro s v t u o n st x hx hxu w h hn hl hu hN ho;rotate_left
 all_goals
  obtain⟨vo,vu,vs,vt,P,rfl,hR⟩:=h
 have CL:=H (λW (hW:Bl w W)=>(pG s.op n u t vo 0 W (hR.ho.bl hW) om).mono (λ_ _ h=>h.yes hx hxu));clear hx hxu;rotate_left;have CL:=H (λW (hW:Bl w W)=>(pG s.op n u t vo 0 W (hR.ho.bl hW) om).mono (λ_ _ h=>h.no hno));clear hno;rotate_left;obtain⟨CL,CH⟩:=eN (λW (hW:Bl w W)=>(pG s.op n u t vo 0 W (hR.ho.bl hW) om).mono (λ_ _ h=>h.yes hx hxu)) (λW (hW:Bl w W)=>(vG s.op n u st t vo 0 W (hR.ho.bl hW) om).mono (λ_ _ h=>h.yes hx hxu));clear hx hxu;rotate_left
 all_goals
  have HRR:=H hR;obtain⟨⟨A1,m1,c1,rfl⟩,⟨A,m,cap,rfl⟩,⟨A2,m2,c2,rfl⟩,A3,m3,c3,rfl⟩:=hR.nr;have AD:=H (λ(O:List fl) (y:eP) (vo:Value) W (h:mU W vo (Z A m cap) (Z A2 m2 c2) (Z A3 m3 c3) {s with op:=O} P)=>xO {s with op:=O} _ u y W ⟨_,_,_,_,P,D,h⟩ hn hl hu hN);simp only[jd,eP.v] at AD;simp only[eP.v] at CL
 rotate_left;rotate_left;simp only[eP.v] at CH;rotate_left
 all_goals
  unfold jd
 obtain⟨X,V,hX,hV,BX,BS,BY,HB,HXw,SV⟩:=qh w #[I J s.now,I J s.fb,Z A1 m1 c1,Z A m cap,Z A2 m2 c2,Z A3 m3 c3] 37 #[I J 3,I J t,C u,C o,I J n,I J st] 26 #[av,av,aw,aw,aw,aw] 37;rotate_left;obtain⟨X,V,hX,hV,BX,BS,BY,HB,HXw,SV⟩:=qh w #[I J s.now,I J s.fb,Z A1 m1 c1,Z A m cap,Z A2 m2 c2,Z A3 m3 c3] 37 #[I J 3,I J t,C u,C o,I J n,I J st] 26 #[av,av,aw,aw,aw,aw] 37;rotate_left;obtain⟨X,V,hX,hV,BX,BS,BY,HB,HXw,SV⟩:=qh w #[I J s.now,I J s.fb,Z A1 m1 c1,Z A m cap,Z A2 m2 c2,Z A3 m3 c3] 37 #[I J 2,I J t,C u,C o,I J n,I J st] 26 #[av,av,aw,aw,aw,aw] 37;rotate_left
 all_goals
  obtain⟨x0,x1,x2,x3,x4,x5⟩:=jg BX;obtain⟨s0,s1,s2,s3,s4,s5⟩:=jg BS;obtain⟨y0,y1,y2,y3,y4,y5⟩:=jg BY;obtain⟨HBX,HBY,HBS⟩:=gi BX BY BS;have hXw:w.heap.size<=X:=by have:=HXw.out;omega
  have hSVV:=SV.out;have hb0:=br V;clear hR hn hl hu hN ho
  go_enter func62,ntmps62
  go_upto_region 1 with fail
  rw[<-hV,<-hX];clear hV hX
 focus
  go_upto_region 6 with(go_at_call 103;refine aaj (CL _ HB) λv5 w5 h9 hb5=>?_;obtain⟨A9,n9,c9,rfl⟩:=h9.fR)
  obtain⟨V2,an,hV2,hG,BG,LV2⟩:=iC w5 #[I J (x.stay t).a,I J (x.stay t).b,I J (x.stay t).n,I J (x.stay t).st] 58
 rotate_left
 focus
  go_upto_region 6 with(go_at_call 103;refine(CL _ HB).mono ?_;rintro e w5 ⟨yy5,ak,hE,rfl,hb5⟩)
  have h9:Rw fl.cs 189 4 w5 0 aw ([]:List fl):=Rw.nil;obtain⟨V2,an,hV2,hG,BG,LV2⟩:=iC w5 #[I J yy5.a,I J yy5.b,I J yy5.n,I J yy5.st] 58
 rotate_left
 focus
  go_upto_region 6 with(go_at_call 103;refine aaj (CL _ HB) λv5 w5 h9 hb5=>?_;obtain⟨A9,n9,c9,rfl⟩:=h9.fR)
  obtain⟨V2,an,hV2,hG,BG,LV2⟩:=iC w5 #[I J (x.stay t).a,I J (x.stay t).b,I J (x.stay t).n,I J (x.stay t).st] 58
 rotate_left
 all_goals
  rw[<-hV2,<-hG];clear hV2;replace hG:=H hG;obtain⟨g0,g1,g2,g3⟩:=pw BG;have H2:=H (hb5.ca LV2);replace h9:=h9.bl LV2;have hGV:V.heap.size<=an:=by have h1:=hG.out;have h2:=hb5.size;omega
  have HBG:=H BG;obtain⟨q0,q1,q2,q3,q4,q5⟩:=uV x0 x1 x2 x3 x4 x5 V2 H2;obtain⟨e0,e1,e2,e3,e4,e5⟩:=uV s0 s1 s2 s3 s4 s5 V2 H2;have h2':Bl V2 V2:=Bl.eH
 have qf:=λj=>Bk.fr (H2.bl HBX) j;rotate_left;have qf:=λj=>Bk.fr (H2.bl HBX) j;rotate_left
 focus
  go_upto_region 8 with(go_at_call 104;refine aaj (CH _ (HB.ca H2)) λv6 w6 h6 hb6=>?_;obtain⟨A6,n6,c6,rfl⟩:=h6.fR;obtain⟨k0,k1,k2,k3⟩:=uW g0 g1 g2 g3 w6 hb6;have kf:=λj=>Bk.fr (hb6.bl HBG) j)
  obtain⟨W3,hW3⟩:=fe ((((w6.setCell ⟨an,0,E⟩ (I J (x.stay t).a)).setCell ⟨an,1,E⟩ (I J (x.stay t).b)).setCell ⟨an,2,E⟩ (I J (x.stay t).n)).setCell ⟨an,3,E⟩ (I J (x.stay t).st));rw[<-hW3];have HG2:=H (show Bk W3 an 58 #[I J (x.stay t).a,I J (x.stay t).b,I J (x.stay t).n,I J (x.stay t).st] by rw[hW3];exact Bk.set (Bk.set (Bk.set (Bk.set (hb6.bl HBG) 0 _) 1 _) 2 _) 3 _);have H3:=H (show Bl V W3 by rw[hW3];exact((((H2.ca hb6).st (p:=⟨an,0,E⟩) hGV _).st (p:=⟨an,1,E⟩) hGV _).st (p:=⟨an,2,E⟩) hGV _).st (p:=⟨an,3,E⟩) hGV _);have HR2:=H (show Rw fl.cs 189 4 W3 0 (Z A6 n6 c6) (yP s.op n st t) by rw[hW3];exact(((h6.fw (hb6.bl HBG) dc 0).fw (Bk.set (hb6.bl HBG) 0 _) dc 1).fw (Bk.set (Bk.set (hb6.bl HBG) 0 _) 1 _) dc 2).fw (Bk.set (Bk.set (Bk.set (hb6.bl HBG) 0 _) 1 _) 2 _) dc 3);clear hW3;obtain⟨q0,q1,q2,q3,q4,q5⟩:=uV x0 x1 x2 x3 x4 x5 W3 H3;obtain⟨e0,e1,e2,e3,e4,e5⟩:=uV s0 s1 s2 s3 s4 s5 W3 H3;have qf:=λj=>Bk.fr (H3.bl HBX) j
 rotate_left
 all_goals
  go_upto_region 9 with fail
 obtain⟨HG2,HR2⟩:=eN (show Bk V2 an 58 #[I J (x.stay t).a,I J (x.stay t).b,I J (x.stay t).n,I J (x.stay t).st] from HBG.out) h9;obtain⟨W1,hW1⟩:=fe (V2.setCell ⟨X,2,E⟩ (Z A9 n9 c9));rotate_left;obtain⟨HG2,HR2⟩:=eN (show Bk V2 an 58 #[I J yy5.a,I J yy5.b,I J yy5.n,I J yy5.st] from HBG.out) h9;obtain⟨W1,hW1⟩:=fe (V2.setCell ⟨X,2,E⟩ aw);rotate_left;obtain⟨W1,hW1⟩:=fe (W3.setCell ⟨X,2,E⟩ (Z A6 n6 c6));rotate_left
 all_goals
  rw[<-hW1]
 have BX1:Bk W1 X 37 #[I J s.now,I J s.fb,Z A9 n9 c9,Z A m cap,Z A2 m2 c2,Z A3 m3 c3]:=by rw[hW1];exact Bk.set (H2.bl HBX) 2 _
 have HY1:=H (show Bk W1 (X+2) 37 #[av,av,aw,aw,aw,aw] by rw[hW1];exact(aa0 V2 ⟨X,2,E⟩ _ (X+2) (show X+2≠X by omega)).trans (H2.bl HBY));have BS1:Bk W1 (X+1) 26 #[I J 3,I J t,C u,C o,I J n,I J st]:=by rw[hW1];exact(aa0 V2 ⟨X,2,E⟩ _ (X+1) (show X+1≠X by omega)).trans (H2.bl HBS)
 have BG1:Bk W1 an 58 #[I J (x.stay t).a,I J (x.stay t).b,I J (x.stay t).n,I J (x.stay t).st]:=by rw[hW1];exact(aa0 V2 ⟨X,2,E⟩ _ an (show an≠X by omega)).trans HG2
 obtain⟨HW1,HRN⟩:=eN (show Bl w W1 by rw[hW1];exact(HB.ca H2).st (p:=⟨X,2,E⟩) hXw _) (show mU W1 (Z A9 n9 c9) (Z A m cap) (Z A2 m2 c2) (Z A3 m3 c3) {s with op:=_} P from by rw[hW1];exact(HRR.sS (HB.ca H2) HR2).fw (H2.bl HBX) _ _);rotate_left;have BX1:Bk W1 X 37 #[I J s.now,I J s.fb,aw,Z A m cap,Z A2 m2 c2,Z A3 m3 c3]:=by rw[hW1];exact Bk.set (H2.bl HBX) 2 _
 have HY1:=H (show Bk W1 (X+2) 37 #[av,av,aw,aw,aw,aw] by rw[hW1];exact(aa0 V2 ⟨X,2,E⟩ _ (X+2) (show X+2≠X by omega)).trans (H2.bl HBY));have BS1:Bk W1 (X+1) 26 #[I J 3,I J t,C u,C o,I J n,I J st]:=by rw[hW1];exact(aa0 V2 ⟨X,2,E⟩ _ (X+1) (show X+1≠X by omega)).trans (H2.bl HBS)
 have BG1:Bk W1 an 58 #[I J yy5.a,I J yy5.b,I J yy5.n,I J yy5.st]:=by rw[hW1];exact(aa0 V2 ⟨X,2,E⟩ _ an (show an≠X by omega)).trans HG2
 obtain⟨HW1,HRN⟩:=eN (show Bl w W1 by rw[hW1];exact(HB.ca H2).st (p:=⟨X,2,E⟩) hXw _) (show mU W1 aw (Z A m cap) (Z A2 m2 c2) (Z A3 m3 c3) {s with op:=_} P from by rw[hW1];exact(HRR.sS (HB.ca H2) HR2).fw (H2.bl HBX) _ _);rotate_left;have BX1:Bk W1 X 37 #[I J s.now,I J s.fb,Z A6 n6 c6,Z A m cap,Z A2 m2 c2,Z A3 m3 c3]:=by rw[hW1];exact Bk.set (H3.bl HBX) 2 _
 have HY1:=H (show Bk W1 (X+2) 37 #[av,av,aw,aw,aw,aw] by rw[hW1];exact(aa0 W3 ⟨X,2,E⟩ _ (X+2) (show X+2≠X by omega)).trans (H3.bl HBY));have BS1:Bk W1 (X+1) 26 #[I J 2,I J t,C u,C o,I J n,I J st]:=by rw[hW1];exact(aa0 W3 ⟨X,2,E⟩ _ (X+1) (show X+1≠X by omega)).trans (H3.bl HBS)
 have BG1:Bk W1 an 58 #[I J (x.stay t).a,I J (x.stay t).b,I J (x.stay t).n,I J (x.stay t).st]:=by rw[hW1];exact(aa0 W3 ⟨X,2,E⟩ _ an (show an≠X by omega)).trans HG2
 obtain⟨HW1,HRN⟩:=eN (show Bl w W1 by rw[hW1];exact(HB.ca H3).st (p:=⟨X,2,E⟩) hXw _) (show mU W1 (Z A6 n6 c6) (Z A m cap) (Z A2 m2 c2) (Z A3 m3 c3) {s with op:=_} P from by rw[hW1];exact(HRR.sS (HB.ca H3) HR2).fw (H3.bl HBX) _ _);rotate_left
 all_goals
  clear hW1;obtain⟨q0,q1,q2,q3,q4,q5⟩:=jF BX1;have e2:=Bk.ce BS1 2;obtain⟨k0,k1,k2,k3⟩:=xf4 BG1
  go_wp2_with (go_at_call 105;refine aaj (AD _ _ _ _ HRN) λv9 w9 hR9 hb9=>?_;obtain⟨vo9,vu9,vs9,vt9,P9,rfl,hR9⟩:=hR9;obtain⟨⟨B1,d1,f1,rfl⟩,⟨B2,d2,f2,rfl⟩,⟨B3,d3,f3,rfl⟩,B4,d4,f4,rfl⟩:=hR9.nr;have hY9:=hb9.bl HY1;obtain⟨p0,p1,p2,p3,p4,p5⟩:=rX hY9;have pf:=λj=>Bk.fr hY9 j;unfold jd)
 ·exact aa1 (eM (p:=4) (a:=5) D _ _ _ _ _ _ _ D (show Bk _ (X+2) _ #[I J s.now,I J s.fb,Z B1 d1 f1,Z B2 d2 f2,Z B3 d3 f3,Z B4 d4 f4] from Bk.set (Bk.set (Bk.set (Bk.set (Bk.set (Bk.set hY9 0 _) 1 _) 2 _) 3 _) 4 _) 5 _) underlying37 D iN) D ⟨jX (HW1.ca hb9) om _ _ _ _ _ _,_,_,D,D,_,_,_,_,P9,D,hR9.pP hY9 _ _ _ _ _ _⟩
 ·exact aa1 (eM (p:=4) (a:=5) D _ _ _ _ _ _ _ D (show Bk _ (X+2) _ #[I J s.now,I J s.fb,Z B1 d1 f1,Z B2 d2 f2,Z B3 d3 f3,Z B4 d4 f4] from Bk.set (Bk.set (Bk.set (Bk.set (Bk.set (Bk.set hY9 0 _) 1 _) 2 _) 3 _) 4 _) 5 _) underlying37 D iN) D ⟨jX (HW1.ca hb9) om _ _ _ _ _ _,_,_,D,hE,{s with op:=([]:List fl),us:=tv bf s.us u yy5},_,_,_,_,P9,D,hR9.pP hY9 _ _ _ _ _ _⟩
 ·exact aa1 (eM (p:=4) (a:=5) D _ _ _ _ _ _ _ D (show Bk _ (X+2) _ #[I J s.now,I J s.fb,Z B1 d1 f1,Z B2 d2 f2,Z B3 d3 f3,Z B4 d4 f4] from Bk.set (Bk.set (Bk.set (Bk.set (Bk.set (Bk.set hY9 0 _) 1 _) 2 _) 3 _) 4 _) 5 _) underlying37 D iN) D ⟨jX (HW1.ca hb9) om _ _ _ _ _ _,_,_,D,D,_,_,_,_,P9,D,hR9.pP hY9 _ _ _ _ _ _⟩
theorem Yr (s:St)(v)(t:Int)(u o:ay)(n st:Int)(hno:∀ x,kC s.op n=G x->x.u≠u)(w)(h:lk w v s)(hn:s.us.length<=1000)(hl:∀ y∈s.us,y.l.length<=1000)(hu:u.size<=1000000)(hN:∀ y∈s.us,y.u.size<=1000000)(ho:s.op.length<=1000):
 Calls prog 62 #[v,.agg #[I J 2,I J t,C u,C o,I J n,I J st]] w (Mg E w):=by
 obtain⟨vo,vu,vs,vt,P,rfl,hR⟩:=h;obtain⟨CL,CH⟩:=eN (λW (hW:Bl w W)=>(pG s.op n u t vo 0 W (hR.ho.bl hW) om).mono (λ_ _ h=>h.no hno)) (λW (hW:Bl w W)=>(vG s.op n u st t vo 0 W (hR.ho.bl hW) om).mono (λ_ _ h=>h.no hno));clear hno;have HRR:=H hR;obtain⟨⟨A1,m1,c1,rfl⟩,⟨A,m,cap,rfl⟩,⟨A2,m2,c2,rfl⟩,A3,m3,c3,rfl⟩:=hR.nr;have AD:=H (λ(O:List fl) (y:eP) (vo:Value) W (h:mU W vo (Z A m cap) (Z A2 m2 c2) (Z A3 m3 c3) {s with op:=O} P)=>xO {s with op:=O} _ u y W ⟨_,_,_,_,P,D,h⟩ hn hl hu hN);simp only[jd,eP.v] at AD;simp only[eP.v] at CL;simp only[eP.v] at CH;unfold jd;obtain⟨X,V,hX,hV,BX,BS,BY,HB,HXw,SV⟩:=qh w #[I J s.now,I J s.fb,Z A1 m1 c1,Z A m cap,Z A2 m2 c2,Z A3 m3 c3] 37 #[I J 2,I J t,C u,C o,I J n,I J st] 26 #[av,av,aw,aw,aw,aw] 37;obtain⟨x0,x1,x2,x3,x4,x5⟩:=jg BX;obtain⟨s0,s1,s2,s3,s4,s5⟩:=jg BS;obtain⟨y0,y1,y2,y3,y4,y5⟩:=jg BY;obtain⟨HBX,HBY,HBS⟩:=gi BX BY BS;have hXw:w.heap.size<=X:=by have:=HXw.out;omega
 have hSVV:=SV.out;have hb0:=br V;clear hR hn hl hu hN ho
 go_enter func62,ntmps62
 go_upto_region 1 with fail
 rw[<-hV,<-hX];clear hV hX
 go_upto_region 6 with(go_at_call 103;refine(CL _ HB).mono ?_;rintro e w5 ⟨yy5,ak,hE,rfl,hb5⟩)
 have h9:Rw fl.cs 189 4 w5 0 aw ([]:List fl):=Rw.nil;obtain⟨V2,an,hV2,hG,BG,LV2⟩:=iC w5 #[I J yy5.a,I J yy5.b,I J yy5.n,I J yy5.st] 58;rw[<-hV2,<-hG];clear hV2;replace hG:=H hG;obtain⟨g0,g1,g2,g3⟩:=pw BG;have H2:=H (hb5.ca LV2);replace h9:=h9.bl LV2;have hGV:V.heap.size<=an:=by have h1:=hG.out;have h2:=hb5.size;omega
 have HBG:=H BG;obtain⟨q0,q1,q2,q3,q4,q5⟩:=uV x0 x1 x2 x3 x4 x5 V2 H2;obtain⟨e0,e1,e2,e3,e4,e5⟩:=uV s0 s1 s2 s3 s4 s5 V2 H2;have h2':Bl V2 V2:=Bl.eH
 go_upto_region 8 with(go_at_call 104;refine(CH _ (HB.ca H2)).mono ?_;rintro e w6 ⟨yy6,E6,hE6,rfl,hb6⟩;obtain⟨k0,k1,k2,k3⟩:=uW g0 g1 g2 g3 w6 hb6;have kf:=λj=>Bk.fr (hb6.bl HBG) j)
 have h6:Rw fl.cs 189 4 w6 0 aw ([]:List fl):=Rw.nil;obtain⟨W3,hW3⟩:=fe ((((w6.setCell ⟨an,0,E⟩ (I J yy6.a)).setCell ⟨an,1,E⟩ (I J yy6.b)).setCell ⟨an,2,E⟩ (I J yy6.n)).setCell ⟨an,3,E⟩ (I J yy6.st));rw[<-hW3];have HG2:=H (show Bk W3 an 58 #[I J yy6.a,I J yy6.b,I J yy6.n,I J yy6.st] by rw[hW3];exact Bk.set (Bk.set (Bk.set (Bk.set (hb6.bl HBG) 0 _) 1 _) 2 _) 3 _);have H3:=H (show Bl V W3 by rw[hW3];exact((((H2.ca hb6).st (p:=⟨an,0,E⟩) hGV _).st (p:=⟨an,1,E⟩) hGV _).st (p:=⟨an,2,E⟩) hGV _).st (p:=⟨an,3,E⟩) hGV _);have HR2:=H (show Rw fl.cs 189 4 W3 0 aw ([]) by rw[hW3];exact(((h6.fw (hb6.bl HBG) dc 0).fw (Bk.set (hb6.bl HBG) 0 _) dc 1).fw (Bk.set (Bk.set (hb6.bl HBG) 0 _) 1 _) dc 2).fw (Bk.set (Bk.set (Bk.set (hb6.bl HBG) 0 _) 1 _) 2 _) dc 3);clear hW3;obtain⟨q0,q1,q2,q3,q4,q5⟩:=uV x0 x1 x2 x3 x4 x5 W3 H3;obtain⟨e0,e1,e2,e3,e4,e5⟩:=uV s0 s1 s2 s3 s4 s5 W3 H3;have qf:=λj=>Bk.fr (H3.bl HBX) j
 go_upto_region 9 with fail
 obtain⟨W1,hW1⟩:=fe (W3.setCell ⟨X,2,E⟩ aw);rw[<-hW1];have BX1:Bk W1 X 37 #[I J s.now,I J s.fb,aw,Z A m cap,Z A2 m2 c2,Z A3 m3 c3]:=by rw[hW1];exact Bk.set (H3.bl HBX) 2 _
 have HY1:=H (show Bk W1 (X+2) 37 #[av,av,aw,aw,aw,aw] by rw[hW1];exact(aa0 W3 ⟨X,2,E⟩ _ (X+2) (show X+2≠X by omega)).trans (H3.bl HBY));have BS1:Bk W1 (X+1) 26 #[I J 2,I J t,C u,C o,I J n,I J st]:=by rw[hW1];exact(aa0 W3 ⟨X,2,E⟩ _ (X+1) (show X+1≠X by omega)).trans (H3.bl HBS)
 have BG1:Bk W1 an 58 #[I J yy6.a,I J yy6.b,I J yy6.n,I J yy6.st]:=by rw[hW1];exact(aa0 W3 ⟨X,2,E⟩ _ an (show an≠X by omega)).trans HG2
 obtain⟨HW1,HRN⟩:=eN (show Bl w W1 by rw[hW1];exact(HB.ca H3).st (p:=⟨X,2,E⟩) hXw _) (show mU W1 aw (Z A m cap) (Z A2 m2 c2) (Z A3 m3 c3) {s with op:=_} P from by rw[hW1];exact(HRR.sS (HB.ca H3) HR2).fw (H3.bl HBX) _ _);clear hW1;obtain⟨q0,q1,q2,q3,q4,q5⟩:=jF BX1;have e2:=Bk.ce BS1 2;obtain⟨k0,k1,k2,k3⟩:=xf4 BG1
 go_wp2_with (go_at_call 105;refine aaj (AD _ _ _ _ HRN) λv9 w9 hR9 hb9=>?_;obtain⟨vo9,vu9,vs9,vt9,P9,rfl,hR9⟩:=hR9;obtain⟨⟨B1,d1,f1,rfl⟩,⟨B2,d2,f2,rfl⟩,⟨B3,d3,f3,rfl⟩,B4,d4,f4,rfl⟩:=hR9.nr;have hY9:=hb9.bl HY1;obtain⟨p0,p1,p2,p3,p4,p5⟩:=rX hY9;have pf:=λj=>Bk.fr hY9 j;unfold jd)
 exact aa1 (eM (p:=4) (a:=5) D _ _ _ _ _ _ _ D (show Bk _ (X+2) _ #[I J s.now,I J s.fb,Z B1 d1 f1,Z B2 d2 f2,Z B3 d3 f3,Z B4 d4 f4] from Bk.set (Bk.set (Bk.set (Bk.set (Bk.set (Bk.set hY9 0 _) 1 _) 2 _) 3 _) 4 _) 5 _) underlying37 D iN) D ⟨jX (HW1.ca hb9) om _ _ _ _ _ _,_,_,D,hE6,{s with op:=([]:List fl),us:=tv bf s.us u yy6},_,_,_,_,P9,D,hR9.pP hY9 _ _ _ _ _ _⟩
theorem lk.zero (W):lk W (.agg #[av,av,aw,aw,aw,aw]) St.zero:=⟨_,_,_,_,[],D,Rw.nil,Rw.nil,D,λ_ h=>by simp at h,Rw.nil,Rw.nil⟩
theorem mU.Mz{s}{P}(h:mU w vo vu vs vt s P)(hb:Bl w W){O}(h9:Rw Sub.cs 196 4 W 0 v9 O):mU W vo vu v9 vt {s with sb:=O} P:=
 ⟨h.ho.bl hb,h.hu.bl hb,h.hp,λp hp=>(h.hl p hp).bl hb,h9,h.ht.bl hb⟩
theorem mU.VD{s}{P}(h:mU w vo vu vs vt s P)(hb:Bl w W){O}(h9:Rw gb.cs 202 2 W 0 v9 O):mU W vo vu vs v9 {s with tb:=O} P:=
 ⟨h.ho.bl hb,h.hu.bl hb,h.hp,λp hp=>(h.hl p hp).bl hb,h.hs.bl hb,h9⟩
theorem Im{ob}(hB:B≠X)(h:W.heap[B]?=G ob)(a b c d e f:Value):((((((W.setCell ⟨X,0,E⟩ a).setCell ⟨X,1,E⟩ b).setCell ⟨X,2,E⟩ c).setCell ⟨X,3,E⟩ d).setCell ⟨X,4,E⟩ e).setCell ⟨X,5,E⟩ f).heap[B]?=G ob:=
 (aa0 _ ⟨X,5,E⟩ _ B hB).trans ((aa0 _ ⟨X,4,E⟩ _ B hB).trans ((aa0 _ ⟨X,3,E⟩ _ B hB).trans ((aa0 _ ⟨X,2,E⟩ _ B hB).trans ((aa0 _ ⟨X,1,E⟩ _ B hB).trans ((aa0 _ ⟨X,0,E⟩ _ B hB).trans h)))))
theorem Wf {q:Option St}{ak:Int}(h:match q with | some s'=>ak=0/\lk w' v' s' | none=>ak≠0/\∃ s',lk w' v' s'):∃ s',(match q with | some s9=>ak=0/\s9=s' | none=>ak≠0/\True)/\lk w' v' s':=by
 cases q with
 | none=>exact⟨h.2.choose,⟨h.1,trivial⟩,h.2.choose_spec⟩
 | some s'=>exact⟨s',⟨h.1,D⟩,h.2⟩
theorem mU.Ow{s}{P}(h:mU w vo vu vs vt s P)(t fb:Int):mU w vo vu vs vt {s with now:=t,fb:=fb} P:=⟨h.ho,h.hu,h.hp,h.hl,h.hs,h.ht⟩
theorem UU (s)(v)(k:Int)(t:Int)(u o:ay)(n st:Int)(w)(h:lk w v s)(hus:u.size<=9223372036854775807)(hos:o.size<=9223372036854775807)(hno:fL ⟨k,t,u,o,n,st⟩=z∨t<s.now):
 Calls prog 44 #[v,.agg #[I J k,I J t,C u,C o,I J n,I J st]] w (Mg (E) w):=by
 obtain⟨vo,vu,vs,vt,P,rfl,hR⟩:=h;have RT:=λW=>gF ⟨k,t,u,o,n,st⟩ W eJ eJ;unfold Ev.v Ev.cells at RT;simp only at RT;have HRR:=H hR;obtain⟨⟨A1,m1,c1,rfl⟩,⟨A,m,cap,rfl⟩,⟨A2,m2,c2,rfl⟩,A3,m3,c3,rfl⟩:=hR.nr;unfold jd;obtain⟨X,V,hX,hV,BX,BS,BY,HB,HXw,SV⟩:=qh w #[I J s.now,I J s.fb,Z A1 m1 c1,Z A m cap,Z A2 m2 c2,Z A3 m3 c3] 37 #[I J k,I J t,C u,C o,I J n,I J st] 26 #[av,av,aw,aw,aw,aw] 37;obtain⟨x0,x1,x2,x3,x4,x5⟩:=jg BX;obtain⟨s0,s1,s2,s3,s4,s5⟩:=jg BS;obtain⟨y0,y1,y2,y3,y4,y5⟩:=jg BY;obtain⟨HBX,HBY,HBS⟩:=gi BX BY BS;have hXw:w.heap.size<=X:=by have:=HXw.out;omega
 have hb0:=br V;clear hR
 go_enter func44,ntmps44
 go_upto_region 1 with fail
 rw[<-hV,<-hX];clear hV hX;rcases hno with hr | ht
 ·rw[hr] at RT;replace RT:=H RT;clear hr
  go_wp2_with (go_at_call 20;refine qx (RT _) λw5 hb5=>?_;obtain⟨p0,p1,p2,p3,p4,p5⟩:=uV y0 y1 y2 y3 y4 y5 w5 hb5;have pf:=λj=>Bk.fr (hb5.bl HBY) j)
  exact rv
 ·generalize fL ⟨k,t,u,o,n,st⟩=r at RT;replace RT:=H RT;cases r
  all_goals
   go_wp2_with (go_at_call 20;refine qx (RT _) λw5 hb5=>?_;obtain⟨e1,q0,p0,p1,p2,p3⟩:=uV s1 x0 y0 y1 y2 y3 w5 hb5;obtain⟨p4,p5⟩:=xV y4 y5 w5 hb5;have pf:=λj=>Bk.fr (hb5.bl HBY) j)
   exact rv
theorem Z6 (s)(v)(k:Int)(t:Int)(u o:ay)(n st:Int)(w)(h:lk w v s)(hus:u.size<=1000000)(hos:o.size<=1000000)(hk:k=1∨k=2∨k=3)(hr:fL ⟨k,t,u,o,n,st⟩=Q)(ht:s.now<=t)(q)(hS:∀ W,Bl w W->Calls prog 62 #[v,.agg #[I J k,I J t,C u,C o,I J n,I J st]] W (Mg q W)):
 Calls prog 44 #[v,.agg #[I J k,I J t,C u,C o,I J n,I J st]] w (Mg (q.map λs'=>{s' with now:=t}) w):=by
 obtain⟨vo,vu,vs,vt,P,rfl,hR⟩:=h;have RT:=λW=>gF ⟨k,t,u,o,n,st⟩ W eJ eJ;unfold Ev.v Ev.cells at RT;simp only at RT;rw[hr] at RT;replace RT:=H RT;clear hr;unfold jd at hS;have SE:=H hS;clear hS;have HRR:=H hR;obtain⟨⟨A1,m1,c1,rfl⟩,⟨A,m,cap,rfl⟩,⟨A2,m2,c2,rfl⟩,A3,m3,c3,rfl⟩:=hR.nr;unfold jd;obtain⟨X,V,hX,hV,BX,BS,BY,HB,HXw,SV⟩:=qh w #[I J s.now,I J s.fb,Z A1 m1 c1,Z A m cap,Z A2 m2 c2,Z A3 m3 c3] 37 #[I J k,I J t,C u,C o,I J n,I J st] 26 #[av,av,aw,aw,aw,aw] 37;obtain⟨x0,x1,x2,x3,x4,x5⟩:=jg BX;obtain⟨s0,s1,s2,s3,s4,s5⟩:=jg BS;obtain⟨y0,y1,y2,y3,y4,y5⟩:=jg BY;obtain⟨HBX,HBY,HBS⟩:=gi BX BY BS;have hXw:w.heap.size<=X:=by have:=HXw.out;omega
 have hb0:=br V;clear hR;have i0:¬t<s.now:=om;clear ht;rcases hk with rfl | rfl | rfl
 all_goals
  go_enter func44,ntmps44
  go_upto_region 1 with fail
  rw[<-hV,<-hX];clear hV hX
  go_upto_region 6 with(go_at_call 20;refine qx (RT _) λw5 hb5=>?_;obtain⟨e1,e2,e3,q0⟩:=uW s1 s2 s3 x0 w5 hb5)
  obtain⟨V2,an,hV2,hG,BG,LV2⟩:=iC w5 #[C u,C o] 145;rw[<-hV2,<-hG];clear hV2;replace hG:=H hG;obtain⟨g0,g1⟩:=ni BG;have H2:=H (hb5.ca LV2);have HV2:=H (HB.ca H2);have h2':Bl V2 V2:=Bl.eH;obtain⟨q0,q1,q2,q3,q4,q5⟩:=uV x0 x1 x2 x3 x4 x5 V2 H2;obtain⟨e0,e1,e2,e3,e4,e5⟩:=uV s0 s1 s2 s3 s4 s5 V2 H2;have qf:=λj=>Bk.fr (H2.bl HBX) j
  go_upto_region 23 with(go_at_call 62;refine(SE _ HV2).mono ?_;rintro e w6 ⟨hb6,v6,ak,rfl,hE0⟩;obtain⟨s',hE,hR9⟩:=Wf hE0;clear hE0;obtain⟨vo9,vu9,vs9,vt9,P9,rfl,hR9⟩:=hR9;obtain⟨⟨B1,d1,f1,rfl⟩,⟨B2,d2,f2,rfl⟩,⟨B3,d3,f3,rfl⟩,B4,d4,f4,rfl⟩:=hR9.nr;have hX6:=(H2.ca hb6).bl HBX;obtain⟨z0,z1,z2,z3,z4,z5⟩:=jF hX6;have xf:=λj=>Bk.fr hX6 j;unfold jd)
  obtain⟨W1,hW1⟩:=fe ((((((w6.setCell ⟨X,0,E⟩ (I J s'.now)).setCell ⟨X,1,E⟩ (I J s'.fb)).setCell ⟨X,2,E⟩ (Z B1 d1 f1)).setCell ⟨X,3,E⟩ (Z B2 d2 f2)).setCell ⟨X,4,E⟩ (Z B3 d3 f3)).setCell ⟨X,5,E⟩ (Z B4 d4 f4));rw[<-hW1];have BX1:Bk W1 X 37 #[I J s'.now,I J s'.fb,Z B1 d1 f1,Z B2 d2 f2,Z B3 d3 f3,Z B4 d4 f4]:=by rw[hW1];exact Bk.set (Bk.set (Bk.set (Bk.set (Bk.set (Bk.set hX6 0 _) 1 _) 2 _) 3 _) 4 _) 5 _
  have BY1:=Im (show X+2≠X by omega) ((H2.ca hb6).bl HBY) (I J s'.now) (I J s'.fb) (Z B1 d1 f1) (Z B2 d2 f2) (Z B3 d3 f3) (Z B4 d4 f4);have BS1:=Im (show X+1≠X by omega) ((H2.ca hb6).bl HBS) (I J s'.now) (I J s'.fb) (Z B1 d1 f1) (Z B2 d2 f2) (Z B3 d3 f3) (Z B4 d4 f4);rw[<-hW1] at BY1 BS1;obtain⟨HW1,HR1⟩:=eN (show Bl w W1 by rw[hW1];exact jX (HV2.ca hb6) hXw _ _ _ _ _ _) (show mU W1 (Z B1 d1 f1) (Z B2 d2 f2) (Z B3 d3 f3) (Z B4 d4 f4) s' P9 by rw[hW1];exact hR9.pP hX6 _ _ _ _ _ _);clear hW1 hX6 hR9;cases q with
  | none=>
   replace hE:=hE.1;have e9:(ak != 0)=Q:=by simp[hE]
   obtain⟨p0,p1,p2,p3,p4,p5⟩:=rX BY1;exact rI
  | some s9=>
   obtain⟨rfl,rfl⟩:=hE;obtain⟨p0,p1,p2,p3,p4,p5⟩:=rX BY1;obtain⟨q0,q1,q2,q3,q4,q5⟩:=jF BX1;have e1:=Bk.ce BS1 1;have qf:=λj=>Bk.fr BX1 j
   go_upto_region 26 with fail
   obtain⟨W9,hW9⟩:=fe (W1.setCell ⟨X,0,E⟩ (I J t));rw[<-hW9];have BX9:Bk W9 X 37 #[I J t,I J s9.fb,Z B1 d1 f1,Z B2 d2 f2,Z B3 d3 f3,Z B4 d4 f4]:=by rw[hW9];exact Bk.set BX1 0 _
   have BY9:Bk W9 (X+2) 37 #[av,av,aw,aw,aw,aw]:=by rw[hW9];exact(aa0 W1 ⟨X,0,E⟩ _ (X+2) (show X+2≠X by omega)).trans BY1
   obtain⟨HW9,HR9⟩:=eN (show Bl w W9 by rw[hW9];exact(HW1.out).st (p:=⟨X,0,E⟩) hXw _) (show mU W9 (Z B1 d1 f1) (Z B2 d2 f2) (Z B3 d3 f3) (Z B4 d4 f4) {s9 with now:=t,fb:=s9.fb} _ from by rw[hW9];exact(HR1.Ow t s9.fb).fw BX1 _ _);clear hW9;obtain⟨p0,p1,p2,p3,p4,p5⟩:=jF BY9;obtain⟨q0,q1,q2,q3,q4,q5⟩:=jF BX9;have pf:=λj=>Bk.fr BY9 j
   go_wp2_with fail
   exact aa1 (eM (p:=4) (a:=5) D _ _ _ _ _ _ _ D (show Bk _ (X+2) _ #[I J t,I J s9.fb,Z B1 d1 f1,Z B2 d2 f2,Z B3 d3 f3,Z B4 d4 f4] from Bk.set (Bk.set (Bk.set (Bk.set (Bk.set (Bk.set BY9 0 _) 1 _) 2 _) 3 _) 4 _) 5 _) underlying37 D iN) D ⟨jX HW9 om _ _ _ _ _ _,_,_,D,D,_,_,_,_,_,D,HR9.pP BY9 _ _ _ _ _ _⟩
theorem Yt (s)(v)(k:Int)(t:Int)(u o:ay)(n st:Int)(w)(h:lk w v s)(hus:u.size<=1000000)(hos:o.size<=1000000)(hk:k=4∨k=5)(hr:fL ⟨k,t,u,o,n,st⟩=Q)(ht:s.now<=t)(q:Option (List Sub))(hS:∀ vs,Rw Sub.cs 196 4 w 0 vs s.sb->∀ f,f=(if k=4 then 63 else 64)->∀ W,Bl w W->Calls prog f #[vs,.agg #[C u,C o],I J t] W λe w'=>Bl W w'/\∃ (v':Value) (ak:Int),e= .returned (.tuple #[v',I J ak])/\Rw Sub.cs 196 4 w' 0 v' (q.getD [])/\(q=E↔ak≠0)):
 Calls prog 44 #[v,.agg #[I J k,I J t,C u,C o,I J n,I J st]] w (Mg (q.map λl=>{s with sb:=l,now:=t}) w):=by
 obtain⟨vo,vu,vs,vt,P,rfl,hR⟩:=h;have RT:=λW=>gF ⟨k,t,u,o,n,st⟩ W eJ eJ;unfold Ev.v Ev.cells at RT;simp only at RT;rw[hr] at RT;replace RT:=H RT;clear hr;have SE:=H (hS vs hR.hs);clear hS;have HRR:=H hR;obtain⟨⟨A1,m1,c1,rfl⟩,⟨A,m,cap,rfl⟩,⟨A2,m2,c2,rfl⟩,A3,m3,c3,rfl⟩:=hR.nr;unfold jd;obtain⟨X,V,hX,hV,BX,BS,BY,HB,HXw,SV⟩:=qh w #[I J s.now,I J s.fb,Z A1 m1 c1,Z A m cap,Z A2 m2 c2,Z A3 m3 c3] 37 #[I J k,I J t,C u,C o,I J n,I J st] 26 #[av,av,aw,aw,aw,aw] 37;obtain⟨x0,x1,x2,x3,x4,x5⟩:=jg BX;obtain⟨s0,s1,s2,s3,s4,s5⟩:=jg BS;obtain⟨y0,y1,y2,y3,y4,y5⟩:=jg BY;obtain⟨HBX,HBY,HBS⟩:=gi BX BY BS;have hXw:w.heap.size<=X:=by have:=HXw.out;omega
 have hb0:=br V;clear hR;have i0:¬t<s.now:=om;clear ht;rcases hk with rfl | rfl
 all_goals
  go_enter func44,ntmps44
  go_upto_region 1 with fail
  rw[<-hV,<-hX];clear hV hX
  go_upto_region 6 with(go_at_call 20;refine qx (RT _) λw5 hb5=>?_;obtain⟨e1,e2,e3,q0⟩:=uW s1 s2 s3 x0 w5 hb5)
  obtain⟨V2,an,hV2,hG,BG,LV2⟩:=iC w5 #[C u,C o] 145;rw[<-hV2,<-hG];clear hV2;replace hG:=H hG;obtain⟨g0,g1⟩:=ni BG;have H2:=H (hb5.ca LV2);have HV2:=H (HB.ca H2);have h2':Bl V2 V2:=Bl.eH;obtain⟨q0,q1,q2,q3,q4,q5⟩:=uV x0 x1 x2 x3 x4 x5 V2 H2;obtain⟨e0,e1,e2,e3,e4,e5⟩:=uV s0 s1 s2 s3 s4 s5 V2 H2;have BX0:Bk V2 X 37 #[I J s.now,I J s.fb,Z A1 m1 c1,Z A m cap,Z A2 m2 c2,Z A3 m3 c3]:=H2.bl HBX;have BY0:Bk V2 (X+2) 37 #[av,av,aw,aw,aw,aw]:=H2.bl HBY;have BS0:=H2.bl HBS;obtain⟨HR0,HW0,HG0⟩:=gi (HRR.bl HV2) HV2 (aJ g0 g1);obtain⟨q0,q1,q2,q3,q4,q5⟩:=jF BX0;obtain⟨e0,e1,e2,e3,e4,e5⟩:=rX BS0;have g0:=HG0.out.1 V2 Bl.eH;have g1:=HG0.out.2 V2 Bl.eH
  go_upto_region 23 with(first | (go_at_call 63;refine(SE _ (by rfl) _ HV2).mono ?_;rintro e w6 ⟨hb6,v6,ak,rfl,h6,hE⟩;obtain⟨B3,d3,f3,rfl⟩:=h6.fR;have hX:=hb6.bl BX0;have z0:=Bk.ce hX 4;have xf:=λj=>Bk.fr hX j) | (go_at_call 64;refine(SE _ (by rfl) _ HV2).mono ?_;rintro e w6 ⟨hb6,v6,ak,rfl,h6,hE⟩;obtain⟨B3,d3,f3,rfl⟩:=h6.fR;have hX:=hb6.bl BX0;have z0:=Bk.ce hX 4;have xf:=λj=>Bk.fr hX j))
  obtain⟨U1,hU⟩:=fe (w6.setCell ⟨X,4,E⟩ (Z B3 d3 f3));rw[<-hU];have BX1:Bk U1 X 37 #[I J s.now,I J s.fb,Z A1 m1 c1,Z A m cap,Z B3 d3 f3,Z A3 m3 c3]:=by rw[hU];exact Bk.set hX 4 _
  have BY1:Bk U1 (X+2) 37 #[av,av,aw,aw,aw,aw]:=by rw[hU];exact(aa0 w6 ⟨X,4,E⟩ _ (X+2) (show X+2≠X by omega)).trans (hb6.bl BY0)
  have BS1:=(aa0 w6 ⟨X,4,E⟩ (Z B3 d3 f3) (X+1) (show X+1≠X by omega)).trans (hb6.bl BS0);rw[<-hU] at BS1;obtain⟨HW1,HR1⟩:=eN (show Bl w U1 by rw[hU];exact(HW0.ca hb6).st (p:=⟨X,4,E⟩) hXw _) (show mU U1 (Z A1 m1 c1) (Z A m cap) (Z B3 d3 f3) (Z A3 m3 c3) ({s with sb:=q.getD []}:St) _ from by rw[hU];exact(HR0.Mz hb6 h6).fw hX _ _);clear hU;cases q with
  | none=>
   replace hE:=hE.1 D;have e9:(ak != 0)=Q:=by simp[hE]
   obtain⟨p0,p1,p2,p3,p4,p5⟩:=jF BY1;exact rI
  | some l=>
   obtain rfl:ak=0:=Decidable.byContradiction λh=>by cases hE.2 h
   obtain⟨p0,p1,p2,p3,p4,p5⟩:=jF BY1;obtain⟨q0,q1,q2,q3,q4,q5⟩:=jF BX1;have e1:=Bk.ce BS1 1;have qf:=λj=>Bk.fr BX1 j
   go_upto_region 26 with fail
   obtain⟨W9,hW9⟩:=fe (U1.setCell ⟨X,0,E⟩ (I J t));rw[<-hW9];have BX9:Bk W9 X 37 #[I J t,I J s.fb,Z A1 m1 c1,Z A m cap,Z B3 d3 f3,Z A3 m3 c3]:=by rw[hW9];exact Bk.set BX1 0 _
   have BY9:Bk W9 (X+2) 37 #[av,av,aw,aw,aw,aw]:=by rw[hW9];exact(aa0 U1 ⟨X,0,E⟩ _ (X+2) (show X+2≠X by omega)).trans BY1
   obtain⟨HW9,HR9⟩:=eN (show Bl w W9 by rw[hW9];exact(HW1.out).st (p:=⟨X,0,E⟩) hXw _) (show mU W9 (Z A1 m1 c1) (Z A m cap) (Z B3 d3 f3) (Z A3 m3 c3) {({s with sb:=l}:St) with now:=t,fb:=s.fb} _ from by rw[hW9];exact(HR1.Ow t s.fb).fw BX1 _ _);clear hW9;obtain⟨p0,p1,p2,p3,p4,p5⟩:=jF BY9;obtain⟨q0,q1,q2,q3,q4,q5⟩:=jF BX9;have pf:=λj=>Bk.fr BY9 j
   go_wp2_with fail
   exact aa1 (eM (p:=4) (a:=5) D _ _ _ _ _ _ _ D (show Bk _ (X+2) _ #[I J t,I J s.fb,Z A1 m1 c1,Z A m cap,Z B3 d3 f3,Z A3 m3 c3] from Bk.set (Bk.set (Bk.set (Bk.set (Bk.set (Bk.set BY9 0 _) 1 _) 2 _) 3 _) 4 _) 5 _) underlying37 D iN) D ⟨jX HW9 om _ _ _ _ _ _,_,_,D,D,_,_,_,_,_,D,HR9.pP BY9 _ _ _ _ _ _⟩
theorem Z8 (s)(v)(t:Int)(u o:ay)(n st:Int)(w)(h:lk w v s)(hus:u.size<=1000000)(hos:o.size<=1000000)(hr:fL ⟨6,t,u,o,n,st⟩=Q)(ht:s.now<=t):
 Calls prog 44 #[v,.agg #[I J 6,I J t,C u,C o,I J n,I J st]] w (Mg (G {s with fb:=max s.fb n,now:=t}) w):=by
 obtain⟨vo,vu,vs,vt,P,rfl,hR⟩:=h;have RT:=λW=>gF ⟨6,t,u,o,n,st⟩ W eJ eJ;unfold Ev.v Ev.cells at RT;simp only at RT;rw[hr] at RT;replace RT:=H RT;clear hr;have HRR:=H hR;obtain⟨⟨A1,m1,c1,rfl⟩,⟨A,m,cap,rfl⟩,⟨A2,m2,c2,rfl⟩,A3,m3,c3,rfl⟩:=hR.nr;unfold jd;obtain⟨X,V,hX,hV,BX,BS,BY,HB,HXw,SV⟩:=qh w #[I J s.now,I J s.fb,Z A1 m1 c1,Z A m cap,Z A2 m2 c2,Z A3 m3 c3] 37 #[I J 6,I J t,C u,C o,I J n,I J st] 26 #[av,av,aw,aw,aw,aw] 37;obtain⟨x0,x1,x2,x3,x4,x5⟩:=jg BX;obtain⟨s0,s1,s2,s3,s4,s5⟩:=jg BS;obtain⟨y0,y1,y2,y3,y4,y5⟩:=jg BY;obtain⟨HBX,HBY,HBS⟩:=gi BX BY BS;have hXw:w.heap.size<=X:=by have:=HXw.out;omega
 have hb0:=br V;clear hR;have i0:¬t<s.now:=om;clear ht
 go_enter func44,ntmps44
 go_upto_region 1 with fail
 rw[<-hV,<-hX];clear hV hX
 go_upto_region 6 with(go_at_call 20;refine qx (RT _) λw5 hb5=>?_;obtain⟨e1,e2,e3,q0⟩:=uW s1 s2 s3 x0 w5 hb5)
 obtain⟨V2,an,hV2,hG,BG,LV2⟩:=iC w5 #[C u,C o] 145;rw[<-hV2,<-hG];clear hV2;replace hG:=H hG;obtain⟨g0,g1⟩:=ni BG;have H2:=H (hb5.ca LV2);have HV2:=H (HB.ca H2);have h2':Bl V2 V2:=Bl.eH;obtain⟨q0,q1,q2,q3,q4,q5⟩:=uV x0 x1 x2 x3 x4 x5 V2 H2;obtain⟨e0,e1,e2,e3,e4,e5⟩:=uV s0 s1 s2 s3 s4 s5 V2 H2;have BX0:Bk V2 X 37 #[I J s.now,I J s.fb,Z A1 m1 c1,Z A m cap,Z A2 m2 c2,Z A3 m3 c3]:=H2.bl HBX;have BY0:Bk V2 (X+2) 37 #[av,av,aw,aw,aw,aw]:=H2.bl HBY;have BS0:=H2.bl HBS;obtain⟨HR0,HW0,HG0⟩:=gi (HRR.bl HV2) HV2 (aJ g0 g1);obtain⟨q0,q1,q2,q3,q4,q5⟩:=jF BX0;obtain⟨e0,e1,e2,e3,e4,e5⟩:=rX BS0;have hX:=BX0;have xf:=λj=>Bk.fr hX j
 go_upto_region 23 with fail
 obtain⟨U1,hU⟩:=fe (V2.setCell ⟨X,1,E⟩ (I J (max s.fb n)));rw[<-hU];have BX1:Bk U1 X 37 #[I J s.now,I J (max s.fb n),Z A1 m1 c1,Z A m cap,Z A2 m2 c2,Z A3 m3 c3]:=by rw[hU];exact Bk.set hX 1 _
 have BY1:Bk U1 (X+2) 37 #[av,av,aw,aw,aw,aw]:=by rw[hU];exact(aa0 V2 ⟨X,1,E⟩ _ (X+2) (show X+2≠X by omega)).trans ((Bl.eH:Bl V2 V2).bl BY0)
 have BS1:=(aa0 V2 ⟨X,1,E⟩ (I J (max s.fb n)) (X+1) (show X+1≠X by omega)).trans ((Bl.eH:Bl V2 V2).bl BS0);rw[<-hU] at BS1;obtain⟨HW1,HR1⟩:=eN (show Bl w U1 by rw[hU];exact(HW0.ca (Bl.eH:Bl V2 V2)).st (p:=⟨X,1,E⟩) hXw _) (show mU U1 (Z A1 m1 c1) (Z A m cap) (Z A2 m2 c2) (Z A3 m3 c3) {s with now:=s.now,fb:=max s.fb n} _ from by rw[hU];exact(HR0.Ow s.now (max s.fb n)).fw hX _ _);clear hU;skip;obtain⟨p0,p1,p2,p3,p4,p5⟩:=jF BY1;obtain⟨q0,q1,q2,q3,q4,q5⟩:=jF BX1;have e1:=Bk.ce BS1 1;have qf:=λj=>Bk.fr BX1 j
 go_upto_region 26 with fail
 obtain⟨W9,hW9⟩:=fe (U1.setCell ⟨X,0,E⟩ (I J t));rw[<-hW9];have BX9:Bk W9 X 37 #[I J t,I J (max s.fb n),Z A1 m1 c1,Z A m cap,Z A2 m2 c2,Z A3 m3 c3]:=by rw[hW9];exact Bk.set BX1 0 _
 have BY9:Bk W9 (X+2) 37 #[av,av,aw,aw,aw,aw]:=by rw[hW9];exact(aa0 U1 ⟨X,0,E⟩ _ (X+2) (show X+2≠X by omega)).trans BY1
 obtain⟨HW9,HR9⟩:=eN (show Bl w W9 by rw[hW9];exact(HW1.out).st (p:=⟨X,0,E⟩) hXw _) (show mU W9 (Z A1 m1 c1) (Z A m cap) (Z A2 m2 c2) (Z A3 m3 c3) {s with now:=t,fb:=(max s.fb n)} _ from by rw[hW9];exact(HR1.Ow t (max s.fb n)).fw BX1 _ _);clear hW9;obtain⟨p0,p1,p2,p3,p4,p5⟩:=jF BY9;obtain⟨q0,q1,q2,q3,q4,q5⟩:=jF BX9;have pf:=λj=>Bk.fr BY9 j
 go_wp2_with fail
 exact aa1 (eM (p:=4) (a:=5) D _ _ _ _ _ _ _ D (show Bk _ (X+2) _ #[I J t,I J (max s.fb n),Z A1 m1 c1,Z A m cap,Z A2 m2 c2,Z A3 m3 c3] from Bk.set (Bk.set (Bk.set (Bk.set (Bk.set (Bk.set BY9 0 _) 1 _) 2 _) 3 _) 4 _) 5 _) underlying37 D iN) D ⟨jX HW9 om _ _ _ _ _ _,_,_,D,D,_,_,_,_,_,D,HR9.pP BY9 _ _ _ _ _ _⟩
theorem Z7 (s)(v)(t:Int)(u o:ay)(n st:Int)(w)(h:lk w v s)(hus:u.size<=1000000)(hos:o.size<=1000000)(hr:fL ⟨7,t,u,o,n,st⟩=Q)(ht:s.now<=t)(hn:s.op.length<=1000/\s.us.length<=1000/\s.sb.length<=1000/\s.tb.length<=1000)(hU:∀ y∈s.us,y.u.size<=1000000)(hT:∀ y∈s.tb,y.u.size<=1000000):
 Calls prog 44 #[v,.agg #[I J 7,I J t,C u,C o,I J n,I J st]] w (Mg (G {s with op:=s.op.filter λx=>decide (x.u≠u),sb:=s.sb.filter λx=>decide (x.w≠u/\x.u≠u),us:=tj bf u [] Q s.us,tb:=qo bf u t z s.tb,now:=t}) w):=by
 obtain⟨vo,vu,vs,vt,P,rfl,hR⟩:=h;have RT:=λW=>gF ⟨7,t,u,o,n,st⟩ W eJ eJ;unfold Ev.v Ev.cells at RT;simp only at RT;rw[hr] at RT;replace RT:=H RT;clear hr;have CO:=H (λW (v:Value) (h:Rw fl.cs 189 4 W 0 v s.op)=>NH s.op u v 0 W h om);have CS:=H (λW (v:Value) (h:Rw Sub.cs 196 4 W 0 v s.sb)=>Nx s.sb u v 0 W h om);have hpl:(P.map (·.1)).length<=40000:=by have:=aP List.length hR.hp;rw[bg] at this ⊢;omega
 have hpn:∀ y∈P.map (·.1),y.u.size<=1000000:=λy hy=>by
  obtain⟨p,hp,rfl⟩:=bI.1 hy;exact hU p.VH (by rw[hR.hp];exact List.mem_map_of_mem hp)
 have CU:=H (λW (v:Value) (h:Rw UC.cs 200 2 W 0 v (P.map (·.1)))=>zv (P.map (·.1)) u E 0 0 v 0 W h hpl hus hpn);have CT:=H (λW (v:Value) (h:Rw gb.cs 202 2 W 0 v s.tb)=>Gl s.tb u t v 0 W h om hus hT);clear hpl hpn hU hT;have HRR:=H hR;obtain⟨A1,m1,c1,rfl⟩:=hR.ho.fR;obtain⟨A,m,cap,rfl⟩:=hR.hu.fR;obtain⟨A2,m2,c2,rfl⟩:=hR.hs.fR;obtain⟨A3,m3,c3,rfl⟩:=hR.ht.fR;unfold jd;obtain⟨X,V,hX,hV,BX,BS,BY,HB,HXw,SV⟩:=qh w #[I J s.now,I J s.fb,Z A1 m1 c1,Z A m cap,Z A2 m2 c2,Z A3 m3 c3] 37 #[I J 7,I J t,C u,C o,I J n,I J st] 26 #[av,av,aw,aw,aw,aw] 37;obtain⟨x0,x1,x2,x3,x4,x5⟩:=jg BX;obtain⟨s0,s1,s2,s3,s4,s5⟩:=jg BS;obtain⟨y0,y1,y2,y3,y4,y5⟩:=jg BY;have HBX:=H BX;have HBY:=H BY;have HBS:=H BS;have hXw:w.heap.size<=X:=by have:=HXw.out;omega
 have hb0:=br V;clear BX BS BY hR;obtain⟨S9,hS0⟩:∃ S9:St,S9= {s with op:=s.op.filter λx=>decide (x.u≠u),sb:=s.sb.filter λx=>decide (x.w≠u/\x.u≠u),us:=tj bf u [] Q s.us,tb:=qo bf u t z s.tb,now:=t}:=⟨_,D⟩;rw[<-hS0];have HS9:=H hS0;clear hS0;have i0:¬t<s.now:=om;clear ht
 go_enter func44,ntmps44
 go_upto_region 1 with fail
 rw[<-hV,<-hX];clear hV hX
 go_upto_region 6 with(go_at_call 20;refine qx (RT _) λw5 hb5=>?_;have e1:=s1 w5 hb5;have e2:=s2 w5 hb5;have e3:=s3 w5 hb5;have q0:=x0 w5 hb5)
 obtain⟨V2,an,hV2,hG,BG,LV2⟩:=iC w5 #[C u,C o] 145;rw[<-hV2,<-hG];clear hV2;replace hG:=H hG;obtain⟨g0,g1⟩:=ni BG;have H2:=H (hb5.ca LV2);have HV2:=H (HB.ca H2);clear e1 e2 e3 q0 hb5 hb0 BG i0;have h2':Bl V2 V2:=Bl.eH;have q0:=x0 V2 H2;have q1:=x1 V2 H2;have q2:=x2 V2 H2;have q3:=x3 V2 H2;have q4:=x4 V2 H2;have q5:=x5 V2 H2;have e0:=s0 V2 H2;have e1:=s1 V2 H2;have e2:=s2 V2 H2;have e3:=s3 V2 H2;have e4:=s4 V2 H2;have e5:=s5 V2 H2;have BX0:Bk V2 X 37 #[I J s.now,I J s.fb,Z A1 m1 c1,Z A m cap,Z A2 m2 c2,Z A3 m3 c3]:=H2.bl HBX;have BY0:Bk V2 (X+2) 37 #[av,av,aw,aw,aw,aw]:=H2.bl HBY;have BS0:=H2.bl HBS;have HR0:=H (HRR.bl HV2);have HW0:=H HV2;have HG0:=H (aJ g0 g1);clear g0 g1;clear q0 e0 x0 s0 y0 q1 e1 x1 s1 y1 q2 e2 x2 s2 y2 q3 e3 x3 s3 y3 q4 e4 x4 s4 y4 q5 e5 x5 s5 y5;obtain⟨q0,q1,q2,q3,q4,q5⟩:=jF BX0;have e0:=Bk.ce BS0 0;have e1:=Bk.ce BS0 1;have e2:=Bk.ce BS0 2;have e3:=Bk.ce BS0 3;have e4:=Bk.ce BS0 4;have e5:=Bk.ce BS0 5
 go_upto_region 20 with(go_at_call 65;refine aaj (CO _ _ HR0.ho) λv6 w6 h6 hb6=>?_;obtain⟨B1,d1,f1,rfl⟩:=h6.fR;have hX:=hb6.bl BX0;have z0:=Bk.ce hX 2;have xf:=λj=>Bk.fr hX j)
 obtain⟨U1,hU⟩:=fe (w6.setCell ⟨X,2,E⟩ (Z B1 d1 f1));rw[<-hU];have BX1:Bk U1 X 37 #[I J s.now,I J s.fb,Z B1 d1 f1,Z A m cap,Z A2 m2 c2,Z A3 m3 c3]:=by rw[hU];exact Bk.set hX 2 _
 have BY1:Bk U1 (X+2) 37 #[av,av,aw,aw,aw,aw]:=by rw[hU];exact(aa0 w6 ⟨X,2,E⟩ _ (X+2) (show X+2≠X by omega)).trans (hb6.bl BY0)
 have BS1:=(aa0 w6 ⟨X,2,E⟩ (Z B1 d1 f1) (X+1) (show X+1≠X by omega)).trans (hb6.bl BS0);rw[<-hU] at BS1;have HW1:=H (show Bl w U1 by rw[hU];exact(HW0.ca hb6).st (p:=⟨X,2,E⟩) hXw _);have HR1:=H (show mU U1 (Z B1 d1 f1) (Z A m cap) (Z A2 m2 c2) (Z A3 m3 c3) ({s with op:=s.op.filter λx=>decide (x.u≠u)}:St) _ from by rw[hU];exact(HR0.sS hb6 h6).fw hX _ _);clear hU xf BX0 BY0 BS0 q0 e0 q1 e1 q2 e2 q3 e3 q4 e4 q5 e5
 try clear z0
 try clear hb6
 obtain⟨q0,q1,q2,q3,q4,q5⟩:=jF BX1;have e0:=Bk.ce BS1 0;have e1:=Bk.ce BS1 1;have e2:=Bk.ce BS1 2;have e3:=Bk.ce BS1 3;have e4:=Bk.ce BS1 4;have e5:=Bk.ce BS1 5
 go_upto_region 21 with(go_at_call 66;refine aaj (CS _ _ HR1.hs) λv7 w7 h7 hb7=>?_;obtain⟨B3,d3,f3,rfl⟩:=h7.fR;have hX:=hb7.bl BX1;have z0:=Bk.ce hX 4;have xf:=λj=>Bk.fr hX j)
 obtain⟨U2,hU⟩:=fe (w7.setCell ⟨X,4,E⟩ (Z B3 d3 f3));rw[<-hU];have BX2:Bk U2 X 37 #[I J s.now,I J s.fb,Z B1 d1 f1,Z A m cap,Z B3 d3 f3,Z A3 m3 c3]:=by rw[hU];exact Bk.set hX 4 _
 have BY2:Bk U2 (X+2) 37 #[av,av,aw,aw,aw,aw]:=by rw[hU];exact(aa0 w7 ⟨X,4,E⟩ _ (X+2) (show X+2≠X by omega)).trans (hb7.bl BY1)
 have BS2:=(aa0 w7 ⟨X,4,E⟩ (Z B3 d3 f3) (X+1) (show X+1≠X by omega)).trans (hb7.bl BS1);rw[<-hU] at BS2;have HW2:=H (show Bl w U2 by rw[hU];exact(HW1.ca hb7).st (p:=⟨X,4,E⟩) hXw _);have HR2:=H (show mU U2 (Z B1 d1 f1) (Z A m cap) (Z B3 d3 f3) (Z A3 m3 c3) ({s with op:=s.op.filter λx=>decide (x.u≠u),sb:=s.sb.filter λx=>decide (x.w≠u/\x.u≠u)}:St) _ from by rw[hU];exact(HR1.Mz hb7 h7).fw hX _ _);clear hU xf BX1 BY1 BS1 q0 e0 q1 e1 q2 e2 q3 e3 q4 e4 q5 e5
 try clear z0
 try clear hb7
 obtain⟨q0,q1,q2,q3,q4,q5⟩:=jF BX2;have e0:=Bk.ce BS2 0;have e1:=Bk.ce BS2 1;have e2:=Bk.ce BS2 2;have e3:=Bk.ce BS2 3;have e4:=Bk.ce BS2 4;have e5:=Bk.ce BS2 5
 go_upto_region 22 with(go_at_call 67;refine aaj (CU _ _ HR2.hu) λv8 w8 h8 hb8=>?_;obtain⟨B2,d2,f2,rfl⟩:=h8.fR;have hX:=hb8.bl BX2;have z0:=Bk.ce hX 3;have xf:=λj=>Bk.fr hX j)
 obtain⟨U3,hU⟩:=fe (w8.setCell ⟨X,3,E⟩ (Z B2 d2 f2));rw[<-hU];have BX3:Bk U3 X 37 #[I J s.now,I J s.fb,Z B1 d1 f1,Z B2 d2 f2,Z B3 d3 f3,Z A3 m3 c3]:=by rw[hU];exact Bk.set hX 3 _
 have BY3:Bk U3 (X+2) 37 #[av,av,aw,aw,aw,aw]:=by rw[hU];exact(aa0 w8 ⟨X,3,E⟩ _ (X+2) (show X+2≠X by omega)).trans (hb8.bl BY2)
 have BS3:=(aa0 w8 ⟨X,3,E⟩ (Z B2 d2 f2) (X+1) (show X+1≠X by omega)).trans (hb8.bl BS2);rw[<-hU] at BS3;have HW3:=H (show Bl w U3 by rw[hU];exact(HW2.ca hb8).st (p:=⟨X,3,E⟩) hXw _);obtain⟨P3,hP3⟩:=HR2.put hb8 (u:=u) (S:=[]) (d:=Q) (n0:=0) (A0:=E) (c0:=0) ⟨D,.inl D⟩ D h8;have HR3:=H (show mU U3 (Z B1 d1 f1) (Z B2 d2 f2) (Z B3 d3 f3) (Z A3 m3 c3) ({s with op:=s.op.filter λx=>decide (x.u≠u),sb:=s.sb.filter λx=>decide (x.w≠u/\x.u≠u),us:=tj bf u [] Q s.us}:St) P3 by rw[hU];exact hP3.fw hX _ _);clear hU xf BX2 BY2 BS2 q0 e0 q1 e1 q2 e2 q3 e3 q4 e4 q5 e5
 try clear z0
 try clear hb8
 obtain⟨q0,q1,q2,q3,q4,q5⟩:=jF BX3;have e0:=Bk.ce BS3 0;have e1:=Bk.ce BS3 1;have e2:=Bk.ce BS3 2;have e3:=Bk.ce BS3 3;have e4:=Bk.ce BS3 4;have e5:=Bk.ce BS3 5
 go_upto_region 23 with(go_at_call 68;refine aaj (CT _ _ HR3.ht) λv9 w9 h9 hb9=>?_;obtain⟨B4,d4,f4,rfl⟩:=h9.fR;have hX:=hb9.bl BX3;have z0:=Bk.ce hX 5;have xf:=λj=>Bk.fr hX j)
 obtain⟨U4,hU⟩:=fe (w9.setCell ⟨X,5,E⟩ (Z B4 d4 f4));rw[<-hU];have BX4:Bk U4 X 37 #[I J s.now,I J s.fb,Z B1 d1 f1,Z B2 d2 f2,Z B3 d3 f3,Z B4 d4 f4]:=by rw[hU];exact Bk.set hX 5 _
 have BY4:Bk U4 (X+2) 37 #[av,av,aw,aw,aw,aw]:=by rw[hU];exact(aa0 w9 ⟨X,5,E⟩ _ (X+2) (show X+2≠X by omega)).trans (hb9.bl BY3)
 have BS4:=(aa0 w9 ⟨X,5,E⟩ (Z B4 d4 f4) (X+1) (show X+1≠X by omega)).trans (hb9.bl BS3);rw[<-hU] at BS4;have HW4:=H (show Bl w U4 by rw[hU];exact(HW3.ca hb9).st (p:=⟨X,5,E⟩) hXw _);have HR4:=H (show mU U4 (Z B1 d1 f1) (Z B2 d2 f2) (Z B3 d3 f3) (Z B4 d4 f4) ({s with op:=s.op.filter λx=>decide (x.u≠u),sb:=s.sb.filter λx=>decide (x.w≠u/\x.u≠u),us:=tj bf u [] Q s.us,tb:=qo bf u t z s.tb}:St) _ from by rw[hU];exact(HR3.VD hb9 h9).fw hX _ _);clear hU xf BX3 BY3 BS3 q0 e0 q1 e1 q2 e2 q3 e3 q4 e4 q5 e5
 try clear z0
 try clear hb9
 obtain⟨p0,p1,p2,p3,p4,p5⟩:=jF BY4;obtain⟨q0,q1,q2,q3,q4,q5⟩:=jF BX4;have e1:=Bk.ce BS4 1;have qf:=λj=>Bk.fr BX4 j
 go_upto_region 26 with fail
 obtain⟨W9,hW9⟩:=fe (U4.setCell ⟨X,0,E⟩ (I J t));rw[<-hW9];have BX9:Bk W9 X 37 #[I J t,I J s.fb,Z B1 d1 f1,Z B2 d2 f2,Z B3 d3 f3,Z B4 d4 f4]:=by rw[hW9];exact Bk.set BX4 0 _
 have BY9:Bk W9 (X+2) 37 #[av,av,aw,aw,aw,aw]:=by rw[hW9];exact(aa0 U4 ⟨X,0,E⟩ _ (X+2) (show X+2≠X by omega)).trans BY4
 have HW9:=H (show Bl w W9 by rw[hW9];exact(HW4.out).st (p:=⟨X,0,E⟩) hXw _);have HR9:=H (show mU W9 (Z B1 d1 f1) (Z B2 d2 f2) (Z B3 d3 f3) (Z B4 d4 f4) {({s with op:=s.op.filter λx=>decide (x.u≠u),sb:=s.sb.filter λx=>decide (x.w≠u/\x.u≠u),us:=tj bf u [] Q s.us,tb:=qo bf u t z s.tb}:St) with now:=t,fb:=s.fb} _ from by rw[hW9];exact(HR4.Ow t s.fb).fw BX4 _ _);clear hW9 p0 p1 p2 p3 p4 p5 q0 q1 q2 q3 q4 q5 e1 qf;obtain⟨p0,p1,p2,p3,p4,p5⟩:=jF BY9;obtain⟨q0,q1,q2,q3,q4,q5⟩:=jF BX9;have pf:=λj=>Bk.fr BY9 j
 go_wp2_with fail
 exact aa1 (eM (p:=4) (a:=5) D _ _ _ _ _ _ _ D (show Bk _ (X+2) _ #[I J t,I J s.fb,Z B1 d1 f1,Z B2 d2 f2,Z B3 d3 f3,Z B4 d4 f4] from Bk.set (Bk.set (Bk.set (Bk.set (Bk.set (Bk.set BY9 0 _) 1 _) 2 _) 3 _) 4 _) 5 _) underlying37 D iN) D ⟨jX HW9 om _ _ _ _ _ _,_,_,D,by rw[HS9.out];exact⟨D,_,_,_,_,_,D,HR9.pP BY9 _ _ _ _ _ _⟩⟩
theorem Nq {s:St}{k t:Int}{o:ay}{n st:Int}(hk:k=1∨k=2∨k=3)(hu:Ord il.u bf s.us):(p9 s k t u n st).map (λs'=>{s' with now:=t})=kM bf s ⟨k,t,u,o,n,st⟩:=by
 rcases hk with rfl | rfl | rfl
 ·unfold p9 kM;dsimp only;rw[aA D,aA D]
  split<;>rfl
 ·unfold p9 kM;dsimp only;rw[az (show ¬(2:Int)=1 by decide),az (show ¬(2:Int)=1 by decide),aA (show(2:Int)=2∨(2:Int)=3 from aG D)];cases kC s.op n with
  | none=>rfl
  | some x=>
   dsimp only
   split
   ·rw[Jw Ze hu];rfl
   ·rfl
 ·unfold p9 kM;dsimp only;rw[az (show ¬(3:Int)=1 by decide),az (show ¬(3:Int)=1 by decide),aA (show(3:Int)=2∨(3:Int)=3 from aI D)];cases kC s.op n with
  | none=>rfl
  | some x=>
   dsimp only
   split
   ·rw[Jw Ze hu];rfl
   ·rfl
theorem Gw (s)(v)(e:Ev)(w)(h:lk w v s)(hF:pY 60 s)(hN:Nm s)(hu:Ord il.u bf s.us)(ht:Ord gb.u bf s.tb)(us:e.user.size<=9223372036854775807)(os:e.other.size<=9223372036854775807):
 Calls prog 44 #[v,e.v] w (Mg (ft bf fL s e) w):=by
 obtain⟨f1,f2,f3,f4,f5⟩:=hF;obtain⟨k,t,u,o,n,st⟩:=e;simp only at us os;unfold Ev.v Ev.cells;simp only;cases hr:fL ⟨k,t,u,o,n,st⟩ with
 | false=>
  have e0:ft bf fL s ⟨k,t,u,o,n,st⟩=E:=by unfold ft;rw[hr,az sm]
  rw[e0];exact UU s v k t u o n st w h us os (.inl hr)
 | true=>
  obtain⟨us',os'⟩:=jC hr;simp only at us' os';replace us:u.size<=1000000:=om;replace os:o.size<=1000000:=om;clear us' os';by_cases htm:s.now<=t
  ·have e0:ft bf fL s ⟨k,t,u,o,n,st⟩=kM bf s ⟨k,t,u,o,n,st⟩:=by unfold ft;rw[aA ⟨hr,htm⟩]
   rw[e0];have hk:1<=k/\k<=7:=by
    by_cases h9:k<1∨7<k
    ·rw[E9 _ _ _ _ _ _ h9] at hr;cases hr
    ·omega
   have hl:∀ y∈s.us,y.l.length<=1000:=λy hy=>by have:=f5 y hy;omega
   by_cases h3:k=1∨k=2∨k=3
   ·rw[<-Nq (o:=o) h3 hu];have SES:∀ W,Bl w W->Calls prog 62 #[v,.agg #[I J k,I J t,C u,C o,I J n,I J st]] W (Mg (p9 s k t u n st) W):=λW hW=>by
     rcases h3 with rfl | rfl | rfl
     ·exact ZZ s v t u o n st W (h.bl hW) om
     ·by_cases hh:∃ x,kC s.op n=G x/\x.u=u
      ·obtain⟨x,hx,hxu⟩:=hh;have e1:p9 s 2 t u n st=G {s with op:=yP s.op n st t,us:=tv bf s.us u (x.stay t)}:=by
        unfold p9;rw[az dc,hx];simp only;rw[aA hxu,aA trivial]
       rw[e1];exact O2.2.2 s v t u o n st x hx hxu W (h.bl hW) om hl us hN.us om
      ·have e1:p9 s 2 t u n st=E:=by
        unfold p9;rw[az dc];cases hx:kC s.op n with
        | none=>rfl
        | some x=>simp only;rw[az (λhxu=>hh ⟨x,hx,hxu⟩)]
       rw[e1];exact Yr s v t u o n st (λx hx hxu=>hh ⟨x,hx,hxu⟩) W (h.bl hW) om hl us hN.us om
     ·by_cases hh:∃ x,kC s.op n=G x/\x.u=u
      ·obtain⟨x,hx,hxu⟩:=hh;have e1:p9 s 3 t u n st=G {s with op:=tS s.op n,us:=tv bf s.us u (x.stay t)}:=by
        unfold p9;rw[az dc,hx];simp only;rw[aA hxu,az dc]
       rw[e1];exact O2.1 s v t u o n st x hx hxu W (h.bl hW) om hl us hN.us om
      ·have e1:p9 s 3 t u n st=E:=by
        unfold p9;rw[az dc];cases hx:kC s.op n with
        | none=>rfl
        | some x=>simp only;rw[az (λhxu=>hh ⟨x,hx,hxu⟩)]
       rw[e1];exact O2.2.1 s v t u o n st (λx hx hxu=>hh ⟨x,hx,hxu⟩) W (h.bl hW) om hl us hN.us om
    exact Z6 s v k t u o n st w h us os h3 hr htm _ SES
   ·rcases(by omega:k=4∨k=5∨k=6∨k=7) with rfl | rfl | rfl | rfl
    ·have e1:kM bf s ⟨4,t,u,o,n,st⟩=(if yu s.sb u o=Q then E else G (qe bf s.sb ⟨u,o,t,FE⟩)).map λl=>{s with sb:=l,now:=t}:=by unfold kM;cases hf:yu s.sb u o<;>simp
     rw[e1];refine Yt s v 4 t u o n st w h us os (.inl D) hr htm _ λvs hv f hf W hW=>?_;subst hf;refine(Gp s.sb u o t vs 0 W (hv.bl hW) om us os hN.sb).mono λe w' hh=>?_;obtain⟨hb,⟨hg,ak,hE,he⟩ | ⟨hg,v',he,hr⟩⟩:=hh
     ·rw[aA hg];exact⟨hb,_,ak,he,Rw.nil,⟨λ_=>hE,λ_=>rfl⟩⟩
     ·rw[az (by rw[hg];decide)];exact⟨hb,v',0,he,hr,⟨λh=>(by cases h),λh=>absurd D h⟩⟩
    ·have e1:kM bf s ⟨5,t,u,o,n,st⟩=(if yu s.sb u o=Q then G (yV s.sb u o t) else E).map λl=>{s with sb:=l,now:=t}:=by unfold kM;cases hf:yu s.sb u o<;>simp
     rw[e1];refine Yt s v 5 t u o n st w h us os (.inr D) hr htm _ λvs hv f hf W hW=>?_;subst hf;refine(Dl s.sb u o t vs 0 W (hv.bl hW) om).mono λe w' hh=>?_;obtain⟨hb,⟨hg,ak,hE,he⟩ | ⟨hg,v',he,hr⟩⟩:=hh
     ·rw[az (by rw[hg];decide)];exact⟨hb,_,ak,he,Rw.nil,⟨λ_=>hE,λ_=>rfl⟩⟩
     ·rw[aA hg];exact⟨hb,v',0,he,hr,⟨λh=>(by cases h),λh=>absurd D h⟩⟩
    ·have e1:kM bf s ⟨6,t,u,o,n,st⟩=G {s with fb:=max s.fb n,now:=t}:=by unfold kM;simp
     rw[e1];exact Z8 s v t u o n st w h us os hr htm
    ·have e1:kM bf s ⟨7,t,u,o,n,st⟩=G {s with op:=s.op.filter λx=>decide (x.u≠u),sb:=s.sb.filter λx=>decide (x.w≠u/\x.u≠u),us:=tj bf u [] Q s.us,tb:=qo bf u t z s.tb,now:=t}:=by
      rw[Kg,MR Ze u t s.tb ht];unfold kM;rfl
     rw[e1];exact Z7 s v t u o n st w h us os hr htm ⟨om,om,om,om⟩ hN.us hN.tb
  ·have e0:ft bf fL s ⟨k,t,u,o,n,st⟩=E:=by unfold ft;rw[az (λh=>htm h.2)]
   rw[e0];exact UU s v k t u o n st w h om om (.inr om)
theorem Q4 (l)(s):(pV l s).length<=l.length+1:=by
 unfold pV
 split
 ·rw[yp];exact aB _
 ·omega
theorem tR (L)(u:ay)(now:Int)(v)(b:Nat)(w)(h:Rw Ev.cs 26 6 w b v L)(hn:L.length<=1000):
 Calls prog 12 #[v,C u,I J now] w λe w'=>∃ v',e= .returned v'/\Rw eP.cs 58 4 w' 0 v' (Ig L u now)/\(Ig L u now).length<=L.length/\Bl w w':=by
 obtain⟨BG,EE⟩:=eN (xM L u v b w h) (λk (hk:k<L.length) W (hW:Bl w W)=>NJ L k now v b W (h.bl hW) hk);obtain⟨A,cap,rfl,hnc,hcap⟩:=h.form;obtain⟨m,hm,HM⟩:=nh L.length;have hbl:=Cj L u;rw[<-hm] at h hnc hn hbl BG ⊢;have HR:=H h;obtain⟨R,hR⟩:=fe (Ig L u now);rw[<-hR];obtain⟨HRR,SA⟩:=eN (show R=(SL (L.drop (mz L u)) u now).foldl pV [] by rw[hR,<-Q9];rfl) (λk (hk:k<L.length) (hb:mz L u<=k)=>Zx (u:=u) (now:=now) hk hb);obtain⟨B,hB⟩:=fe (mz L u);rw[<-hB] at HRR SA BG hbl;clear h hm hR hB
 go_enter func12,ntmps12
 go_upto_region 3 with(go_at_call 25;refine qx BG λw4 hb4=>?_)
 have HB4:=H hb4
 go_loopw [8,7] (λi o wr=>∃ k:Nat,B<=k/\k<=m/\i= I J k/\∃ O,Rw eP.cs 58 4 wr 0 o O/\Hid (R=(SL (L.drop k) u now).foldl pV O)/\O.length<=k/\Bl w wr) (λi _ _=>m - (intOf i).toNat)
 case atStart=>exact⟨B,aB _,hbl,D,[],Rw.nil,HRR,aD _,HB4⟩
 case round=>
  obtain⟨k,hBk,hk,rfl,O,ho,hO,hlen,hb⟩:=hrel;by_cases hlt:k<m
  ·have hk':k<L.length:=by rw[<-HM.out];exact hlt
   obtain⟨g,rfl,_,_,c0,c1,c2,c3,c4,c5⟩:=HR.FK k hk';have SK:=H (SA k hk' hBk);have EN:=EE k hk';rw[<-HM.out] at EN;obtain⟨T,hT0⟩:=fe (mM (L.drop (k+1)) L[k].n now);rw[<-hT0] at SK EN;replace EN:=H EN;clear hT0;generalize L[k]=x at*;obtain⟨i1,i2⟩:=ln (k:=k) (m:=m) om;have E2:(x.user.toList==u.toList)=decide (x.user=u):=gS;have HBk:=H hb;obtain⟨d0,d1,d2,d3,d4,d5⟩:=uV c0 c1 c2 c3 c4 c5 wr hb;by_cases h12:x.kind=1∨x.kind=2
   ·by_cases hu:x.user=u
    ·rw[aF hu] at E2;have HQ:=H (show R=(SL (L.drop (k+1)) u now).foldl pV (pV O ⟨x.time,T,x.n,x.st⟩) by rw[hO.out,SK.out,aA ⟨h12,hu⟩];rfl);have AL:=Q4 O ⟨x.time,T,x.n,x.st⟩;obtain⟨A3,n3,c3',rfl⟩:=ho.fR;have AD:=λW (hW:Bl wr W)=>Dv O ⟨x.time,T,x.n,x.st⟩ _ 0 W (ho.bl hW) om;unfold eP.v at AD;simp only at AD;replace AD:=H AD;clear hu hO ho;have g0:∀ W,Bl wr W->_:=λW hW=>c0 W (HBk.ca hW);have g1:∀ W,Bl wr W->_:=λW hW=>c1 W (HBk.ca hW);have g4:∀ W,Bl wr W->_:=λW hW=>c4 W (HBk.ca hW);have g5:∀ W,Bl wr W->_:=λW hW=>c5 W (HBk.ca hW);by_cases h1:x.kind=1;have e1:(x.kind==1)=Q:=by simp[h1]
     rotate_left;have e1:(x.kind==1)=z:=by simp[h1]
     have e2:(x.kind==2)=Q:=h12.elim (λh=>absurd h h1) (λh=>fF);rotate_left
     all_goals
      clear h1 h12
      go_upto_region 6 with fail
      refine jI (T:=Bl wr) (S:=Bl wr) [] (Bl.dr Bl.eH) (Bl.dr Bl.eH) λhT0 hS0=>?_
      try dsimp only at hT0 hS0
      refine aaa [0,1,2,3,4] ?_;refine td 5 ?_;refine aaa [6,7,8,10,11,12,13] ?_;refine td 14 ?_;refine aaa [15,16,17,18] ?_;refine td 19 ?_;refine eK 9 λKQ hK=>?_;go_simp
      (go_at_call 29;refine qx (EN _ (HBk.ca hS0)) λw5 hb5=>?_)
      have hT1:=hS0.ca hb5;have hS1:=hT1;refine kq hK ?_;refine qd 20 ?_;refine eK 21 λKQ hK=>?_;go_simp
      (go_at_call 28;refine aaj (AD _ hS1) λv6 w6 hr6 hb6=>?_)
      obtain⟨A6,n6,c6,rfl⟩:=hr6.fR;have hT2:=hS1.ca hb6;have hS2:=hT2;refine kq hK ?_;refine qd 22 ?_;refine iU ?_;have hL:=hS2
      go_wp2_with fail
      exact⟨⟨k+1,om,om,eB,_,hr6,HQ,om,HBk.ca hL⟩,eE⟩
    ·rw[aC hu] at E2;obtain⟨HQ,HO⟩:=eN (show R=(SL (L.drop (k+1)) u now).foldl pV O by rw[hO.out,SK.out,az (λhh=>hu hh.2)]) ho;clear hu hO ho;by_cases h1:x.kind=1;have e1:(x.kind==1)=Q:=by simp[h1]
     rotate_left;have e1:(x.kind==1)=z:=by simp[h1]
     have e2:(x.kind==2)=Q:=h12.elim (λh=>absurd h h1) (λh=>fF);rotate_left
     all_goals
      clear h1 h12;exact l6
   ·obtain⟨HQ,HO⟩:=eN (show R=(SL (L.drop (k+1)) u now).foldl pV O by rw[hO.out,SK.out,az (λhh=>h12 hh.1)]) ho;have e1:(x.kind==1)=z:=by simp;exact λh=>h12 (.inl h)
    have e2:(x.kind==2)=z:=by simp;exact λh=>h12 (.inr h)
    clear h12 hO ho;exact l6
  ·have ek:k=m:=om;have i1:¬(k:Int)<m:=om;obtain⟨HQ,HBk,HO⟩:=gi (show R=O by rw[hO.out,ek,HM.out,bX];rfl) hb ho;clear hO ho
   go_wp2_with fail
   go_ret;exact⟨_,D,by rw[HQ.out];exact HO,by rw[HQ.out];omega,HBk⟩
theorem LB {L:List Ev}{c}(hj:j<L.length):mT (L.drop j) a c=if L[j].kind=5/\L[j].user=a/\L[j].other=c then L[j].time else mT (L.drop (j+1)) a c:=by
 rw[aR hj,mT]
theorem xG (L)(a c:ay)(v)(b:Nat)(w)(h:Rw Ev.cs 26 6 w b v L)(hn:L.length<=1000):
 Calls prog 9 #[v,C a,C c] w λe w'=>∃ v',e= .returned v'/\Rw fm.cs 68 2 w' 0 v' (fq (PL L a c))/\(PL L a c).length<=L.length/\Bl w w':=by
 have BG:=H (λu W (hW:Bl w W)=>xM L u v b W (h.bl hW));obtain⟨A,cap,rfl,hnc,hcap⟩:=h.form;obtain⟨m,hm,HM⟩:=nh L.length;have hbl:max (mz L a) (mz L c)<=L.length:=by have h1:=Cj L a;have h2:=Cj L c;omega
 rw[<-hm] at h hnc hn hbl BG ⊢;have HR:=H h;obtain⟨R,hR⟩:=fe (PL L a c);rw[<-hR];obtain⟨HRR,PA⟩:=eN (show R=PL (L.drop (max (mz L a) (mz L c))) a c by rw[hR,<-XJ]) (λk (hk:k<L.length) (hb:max (mz L a) (mz L c)<=k)=>Zy hk hb);have BA:=BG a;have BC:=BG c;obtain⟨B1,hB1⟩:=fe (mz L a);obtain⟨B2,hB2⟩:=fe (mz L c);rw[<-hB1] at HRR PA BA hbl;rw[<-hB2] at HRR PA BC hbl;have emx:max (B1:Int) (B2:Int)=((max B1 B2:Nat):Int):=om;replace BA:=H BA;replace BC:=H BC;clear h hm hR hB1 hB2
 go_enter func9,ntmps9
 go_upto_region 3 with(first | (go_at_call 25;with_reducible refine qx (BA.out _ Bl.eH) λw4 hb4=>?_) | (go_at_call 25;with_reducible refine qx (BC.out _ hb4) λw5 hb5=>?_))
 have HB4:=H (hb4.ca hb5)
 go_loopw [8,7] (λi o wr=>∃ k:Nat,max B1 B2<=k/\k<=m/\i= I J k/\∃ O,Rw fm.cs 68 2 wr w.heap.size o O/\Hid (R=O++PL (L.drop k) a c)/\O.length<=k/\Bl w wr) (λi _ _=>m - (intOf i).toNat)
 case atStart=>exact⟨max B1 B2,aB _,hbl,D,[],Rw.nil,HRR,aD _,HB4⟩
 case round=>
  obtain⟨k,hBk,hk,rfl,O,ho,hO,hlen,hb⟩:=hrel;clear emx;by_cases hlt:k<m
  ·have hk':k<L.length:=by rw[<-HM.out];exact hlt
   obtain⟨g,rfl,_,_,c0,c1,c2,c3,_,_⟩:=HR.FK k hk';have PK:=H (PA k hk' hBk);generalize L[k]=x at*;obtain⟨i1,i2⟩:=ln (k:=k) (m:=m) om;have E2:(x.user.toList==a.toList)=decide (x.user=a):=gS;have E3:(x.other.toList==c.toList)=decide (x.other=c):=gS;obtain⟨HBk,HO⟩:=eN hb ho;obtain⟨d0,d1,d2,d3⟩:=uW c0 c1 c2 c3 wr hb;clear ho;by_cases hm4:x.kind=4/\x.user=a/\x.other=c
   ·obtain⟨h4,hua,hoc⟩:=hm4;have e1:(x.kind != 4)=z:=by simp[h4]
    rw[aF hua] at E2;rw[aF hoc] at E3;have HQ:=H (show R=(O++[⟨x.time,mT (L.drop (k+1)) a c⟩])++PL (L.drop (k+1)) a c by rw[hO.out,PK.out,aA ⟨h4,hua,hoc⟩];simp);clear h4 hua hoc hO;have e9:IntKind.i64.wrap ((m:Int) - 1)=(m:Int) - 1:=by rw[jh om]
    go_upto_region 8 with fail
    go_loop [10,9] (λi t=>∃ j:Nat,k+1<=j/\j<=m/\i= I J ((j:Int) - 1)/\∃ T,t= I J T/\Hid (T=mT (L.drop j) a c)) (λi _=>(intOf i+1).toNat)
    case atStart=>exact⟨m,om,aB _,eB,FE,D,H (by rw[HM.out,bX];rfl)⟩
    case round=>
     obtain⟨j1,hj1,hj2,rfl,T,rfl,hT⟩:=hrel;obtain⟨j,rfl⟩:∃ j,j1=j+1:=⟨j1 - 1,om⟩;rw[show(((j+1:Nat):Int) - 1)=(j:Int) by omega];have i5:(0:Int)<=(j:Int):=om;have i6:(j:Int)<m:=om;have i7:IntKind.i64.wrap ((j:Int) - 1)=(j:Int) - 1:=by rw[jh om]
     by_cases hjk:k<j
     ·have hj':j<L.length:=by rw[<-HM.out];omega
      obtain⟨g',hg',_,_,c0,c1,c2,c3,_,_⟩:=HR.FK j hj';injection hg' with hg'
      injection hg' with hg'
      subst hg';have EP:=H (LB (a:=a) (c:=c) hj');generalize L[j]=y at*;obtain⟨q0,q1,q2,q3⟩:=uW c0 c1 c2 c3 wr HBk;have F2:(y.user.toList==a.toList)=decide (y.user=a):=gS;have F3:(y.other.toList==c.toList)=decide (y.other=c):=gS;have i8:(j:Int)>k:=om;by_cases h5:y.kind=5
      ·have e5:(y.kind==5)=Q:=by simp[h5]
       by_cases hya:y.user=a
       ·rw[aF hya] at F2;by_cases hyc:y.other=c;rw[aF hyc] at F3;have HE:=H (show y.time=mT (L.drop j) a c by rw[EP.out,aA ⟨h5,hya,hyc⟩]);rotate_left;rw[aC hyc] at F3;have HE:=H (show T=mT (L.drop j) a c by rw[hT.out,EP.out,az (λhh=>hyc hh.2.2)]);rotate_left
        all_goals
         clear h5 hya hyc;exact abp
       ·rw[aC hya] at F2;have HE:=H (show T=mT (L.drop j) a c by rw[hT.out,EP.out,az (λhh=>hya hh.2.1)]);clear h5 hya;exact abp
      ·have e5:(y.kind==5)=z:=by simp[h5]
       have HE:=H (show T=mT (L.drop j) a c by rw[hT.out,EP.out,az (λhh=>h5 hh.1)]);clear h5;exact abp
     ·have ej:j=k:=om;have HT2:=H (show mT (L.drop (k+1)) a c=T by rw[hT.out,ej]);have i8:¬(j:Int)>k:=om;rw[HT2.out] at HQ;clear ej
      go_wp2_with (at_builtin;refine fH pz D _ _ D w.heap.size D (HO.bl (gl _ _)) D (eL _ _) (y:=(⟨x.time,T⟩:fm)) D D (ll _) om (HBk.al _).size ?_;intro v7 w7 ho7 hb7)
      exact⟨⟨k+1,om,om,eB,_,ho7,HQ,eC,hb7 w D (HBk.al _)⟩,eE⟩
   ·have HQ:=H (show R=O++PL (L.drop (k+1)) a c by rw[hO.out,PK.out,az hm4]);clear hO;by_cases h4:x.kind=4
    ·have e1:(x.kind != 4)=z:=by simp[h4]
     by_cases hua:x.user=a;rw[aF hua] at E2;rw[aC (λhoc=>hm4 ⟨h4,hua,hoc⟩)] at E3;clear h4 hua hm4;rotate_left;rw[aC hua] at E2;clear h4 hua hm4;rotate_left
     all_goals
      exact l6
    ·have e1:(x.kind != 4)=Q:=by simp[h4]
     clear h4 hm4;exact l6
  ·have ek:k=m:=om;have i1:¬(k:Int)<m:=om;obtain⟨HQ,NO,HBk⟩:=gi (show R=O by rw[hO.out,ek,HM.out,bX];simp[PL]) (zw O _ _ wr ho om) hb;clear hO ho
   go_wp2_with (go_at_call 26;refine aaj NO λv7 w7 hr7 hb7=>?_)
   go_ret;exact⟨_,D,by rw[HQ.out];exact hr7,by rw[HQ.out];omega,HBk.ca hb7⟩
theorem Uf {s s'}{e:Ev}(h:Nm s)(hu:e.user.size<=1000000)(ho:e.other.size<=1000000)(hd:kM bf s e=G s'):Nm s':=by
 obtain⟨n1,n2,n3⟩:=h;have addN:∀ (l:List il) (x:eP),(∀ y∈l,y.u.size<=1000000)->∀ y∈qi bf l e.user x,y.u.size<=1000000:=by
  intro l x hl y hy;unfold qi at hy
  split at hy
  ·split at hy
   ·have hnm:=sg l e.user x;obtain⟨au,hz,hzu⟩:∃ au∈l,au.u=y.u:=by
     have:y.u∈(p8 l e.user x).map il.u:=List.mem_map_of_mem hy;rw[hnm] at this;obtain⟨au,hz,hzu⟩:=bI.1 this;exact⟨au,hz,hzu⟩
    rw[<-hzu];exact hl au hz
   ·rcases ym l _ y hy with rfl | hy
    ·exact hu
    ·exact hl y hy
  ·exact hl y hy
 unfold kM at hd
 split at hd
 ·split at hd
  ·cases hd
  ·injection hd with hd;subst hd;exact⟨n1,n2,n3⟩
 split at hd
 ·split at hd
  ·cases hd
  ·split at hd
   ·injection hd with hd;subst hd;exact⟨addN _ _ n1,n2,n3⟩
   ·cases hd
 split at hd
 ·split at hd
  ·cases hd
  ·injection hd with hd;subst hd
   refine⟨n1,λy hy=>?_,n3⟩;rcases aE.1 ((pe _ _).mem_iff.1 hy) with rfl | hy
   ·exact⟨hu,ho⟩
   ·exact n2 y hy
 split at hd
 ·split at hd
  ·injection hd with hd;subst hd
   refine⟨n1,λy hy=>?_,n3⟩;have key:∀ (l:List Sub),(∀ y∈l,y.w.size<=1000000/\y.u.size<=1000000)->∀ y∈yV l e.user e.other e.time,y.w.size<=1000000/\y.u.size<=1000000:=by
    intro l
    induction l with
    | nil=>intro _ y hy;cases hy
    | cons au r ih=>
     intro hl y hy;unfold yV at hy;have hr:∀ y∈r,y.w.size<=1000000/\y.u.size<=1000000:=λq hq=>hl q (by simp[hq]);have hz:=hl au sm
     split at hy
     ·split at hy
      ·rcases aE.1 hy with rfl | hy
       ·exact hz
       ·exact hr y hy
      ·exact hr y hy
     ·rcases aE.1 hy with rfl | hy
      ·exact hz
      ·exact ih hr y hy
   exact key _ n2 y hy
  ·cases hd
 split at hd
 ·injection hd with hd;subst hd;exact⟨n1,n2,n3⟩
 split at hd
 ·injection hd with hd;subst hd
  refine⟨λy hy=>n1 y (aa9.1 hy).1,λy hy=>n2 y (aa9.1 hy).1,λy hy=>?_⟩;have key:∀ (l:List gb) (x:gb),y∈sJ bf l x->y=x∨y∈l:=by
   intro l x
   induction l with
   | nil=>intro h;simpa[sJ] using h
   | cons au r ih=>
    intro h;unfold sJ at h
    split at h
    ·rcases aE.1 h with rfl | h
     ·exact aI sm
     ·exact(ih h).imp id λh=>by simp[h]
    ·rcases aE.1 h with rfl | h
     ·exact aG D
     ·exact aI h
  rcases key _ _ hy with rfl | hy
  ·exact hu
  ·exact n3 y (aa9.1 hy).1
 ·cases hd
def j9 (s:St):List Ev->List Bool
 | []=>[]
 | e::r=>match ft bf fL s e with
   | none=>z::j9 s r
   | some s'=>Q::j9 s' r
def mK (s:St):List Ev->St
 | []=>s
 | e::r=>match ft bf fL s e with
   | none=>mK s r
   | some s'=>mK s' r
structure ik (n:Nat)(s:St):Prop where
 f:pY n s
 m:Nm s
 u:Ord il.u bf s.us
 t:Ord gb.u bf s.tb
theorem ik.zero:ik 0 St.zero:=⟨⟨ic,ic,ic,ic,ic⟩,⟨ic,ic,ic⟩,.nil,.nil⟩
theorem ik.step{s s'}{e:Ev}(h:ik n s)(hu:e.user.size<=1000000)(ho:e.other.size<=1000000)(hs:ft bf fL s e=G s'):ik (n+1) s':=by
 unfold ft at hs
 split at hs
 ·obtain⟨a,b⟩:=Qp Ze h.u h.t hs;exact⟨Qq h.f hs,Uf h.m hu ho hs,a,b⟩
 ·cases hs
theorem pY.up{s}(h:pY n s)(hm:n<=m):pY m s:=by
 obtain⟨a,b,c,d,e⟩:=h;exact⟨om,om,om,om,λy hy=>by have:=e y hy;omega⟩
theorem ik.up{s}(h:ik n s)(hm:n<=m):ik m s:=⟨h.f.up hm,h.m,h.u,h.t⟩
theorem QY {α:Type}{f:α->List Value}{ops:Array Oper}{rest:List Oper}{o:Oper}{a:Act}{ar:Exit->Act->World->Prop}{e}(T:Ty t e sz bytes)(hgd:o.guard=E)(s x:Operand)
 (ho:o.op= .call {callee:=.builtin .append,args:=#[s,x],argTypes:=#[t,t]}) (base:Nat)
 {v:Value} {L:List α} (h:Rw f e sz w base v L) (hs:a.eval s=v) {g:Nat} (hx:a.eval x= Z (G ⟨g,0,E⟩) 1 1) {t2:TypeId} {cs:Array Value} (hB:Bk w g t2 cs) {y:α} (hy:cs.toList=f y) (hsz:cs.size=sz) (h1:∀ u∈f y,u.oneCell'=Q)
 (hn:L.length<=99999) (hbase:base<=w.heap.size)
 (k:∀ v' w',Rw f e sz w' base v' (L++[y])->w.grownBy w' v.ownBlock->wpList prog ops ar rest (a.put o.dst v') w'):wpList prog ops ar (o::rest) a w:=by
 obtain⟨i,au,hi,hz,q1,q2,q3⟩:=T.i;have hbt:(L.length+1)*bytes<=1000000*1000:=ch om T.ZG;refine wpList_append_own _ hgd s x t ho base e i au sz bytes T.u hi hz q1 q2 q3 T.pos v L.length (L.flatMap f) hs h ⟨g,0,E⟩ 1 1 cs.toList hx (by simpa using hsz) ((mP hB hsz (by rw[hy];exact h1)).ce ⟨g,0,E⟩ D) (by rw[hy];exact h1) eQ om hbase ?_;intro v' w' k1 k2 _;refine k v' w' ?_ k2;unfold Rw;rw[hy] at k1;rw[bB,aU];simpa using k1
theorem Rw.pP {α:Type}{f:α->List Value}{v}{L:List α}{cs}(h:Rw f t sz w b v L)(hB:Bk w X t2 cs)(ht:t≠t2)(a c d e g i:Value):
 Rw f t sz ((((((w.setCell ⟨X,0,E⟩ a).setCell ⟨X,1,E⟩ c).setCell ⟨X,2,E⟩ d).setCell ⟨X,3,E⟩ e).setCell ⟨X,4,E⟩ g).setCell ⟨X,5,E⟩ i) b v L:=
 (((((h.fw hB ht 0).fw (hB.set 0 _) ht 1).fw ((hB.set 0 _).set 1 _) ht 2).fw (((hB.set 0 _).set 1 _).set 2 _) ht 3).fw ((((hB.set 0 _).set 1 _).set 2 _).set 3 _) ht 4).fw (((((hB.set 0 _).set 1 _).set 2 _).set 3 _).set 4 _) ht 5
theorem Ga {s}{L:List Ev}(hk:k<L.length):j9 s (L.drop k)=(match ft bf fL s L[k] with | none=>z::j9 s (L.drop (k+1)) | some s'=>Q::j9 s' (L.drop (k+1))):=by
 rw[aR hk,j9]
 try (cases ft bf fL s L[k]<;>rfl)
theorem G8 {s}{L:List Ev}(hk:k<L.length):mK s (L.drop k)=(match ft bf fL s L[k] with | none=>mK s (L.drop (k+1)) | some s'=>mK s' (L.drop (k+1))):=by
 rw[aR hk,mK]
 try (cases ft bf fL s L[k]<;>rfl)
structure Vp (w:World)(X bs:Nat)(s0:St)(L:List Ev)(n0 k:Nat)(o:Value)(wr:World)(s:St)(B1 B2 B3 B4:Option Addr)(m1 m2 m3 m4 d1 d2 d3 d4:Nat)(P:List UP)(ak:List Int):Prop where
 x:Bk wr X 37 #[I J s.now,I J s.fb,Z B1 m1 d1,Z B2 m2 d2,Z B3 m3 d3,Z B4 m4 d4]
 y:Bk wr (X+1) 37 #[av,av,aw,aw,aw,aw]
 r:mU wr (Z B1 m1 d1) (Z B2 m2 d2) (Z B3 m3 d3) (Z B4 m4 d4) s P
 o:Rw zU 61 1 wr bs o ak
 t:ak.map (λx=>decide (x=0))++j9 s (L.drop k)=j9 s0 L
 f:mK s (L.drop k)=mK s0 L
 i:ik (n0+k) s
 l:ak.length=k
 b:Bl w wr
 v:bs<=wr.heap.size
theorem tQ {α β:Type}{f:α->List Value}{f':β->List Value}{t'}{sz':Nat}{v o}{M:List α}{ak:List β}(h:Rw f t sz W b v M)(ho:Rw f' t' sz' W b' o ak)(ht:t≠t')(hg:W.grownBy W' o.ownBlock):Rw f t sz W' b v M:=by
 rcases ho.2 with⟨rfl,_⟩ | ⟨g,cap,cur,rfl,hgb,hh,_⟩
 ·exact h.bl (Bl.gr Bl.eH hg λk hk=>by cases hk)
 ·exact pJ h hh ht hg
theorem Vp.app {W7:World}{bs:Nat}{s0 s:St}{L:List Ev}{o o7:Value}{B1 B2 B3 B4:Option Addr}{m1 m2 m3 m4 d1 d2 d3 d4:Nat}{P:List UP}{ak:List Int}{e:Int}
 (hx:Bk W X 37 #[I J s.now,I J s.fb,Z B1 m1 d1,Z B2 m2 d2,Z B3 m3 d3,Z B4 m4 d4])
 (hy:Bk W (X+1) 37 #[av,av,aw,aw,aw,aw])
 (hr:mU W (Z B1 m1 d1) (Z B2 m2 d2) (Z B3 m3 d3) (Z B4 m4 d4) s P) (ho:Rw zU 61 1 W bs o ak) (hb:Bl w W) (hX:X+1<bs) (hw:w.heap.size<=bs) (hv:bs<=W.heap.size) {ob:Obj} (hg:(W.alloc ob).grownBy W7 o.ownBlock) (ho7:Rw zU 61 1 W7 bs o7 (ak++[e]))
 (t:(ak++[e]).map (λx=>decide (x=0))++j9 s (L.drop (k+1))=j9 s0 L) (f:mK s (L.drop (k+1))=mK s0 L) (i:ik (n0+(k+1)) s) (l:ak.length=k):
 Vp w X bs s0 L n0 (k+1) o7 W7 s B1 B2 B3 B4 m1 m2 m3 m4 d1 d2 d3 d4 P (ak++[e]):=by
 have h1:=gl W ob;have ho1:=ho.bl h1;have hr1:=hr.bl h1;have fo:∀ (B:Nat) (cs:Array Value),B<bs->Bk W B 37 cs->Bk W7 B 37 cs:=λB cs hB h=>by
  have h2:=h1.bl h;exact(hg.block B (aa2.1 h2).1 (λe=>by have h3:=(ho1.lt B e.symm).1;omega)).trans h2
 refine⟨fo X _ om hx,fo (X+1) _ hX hy,⟨tQ hr1.ho ho1 dc hg,tQ hr1.hu ho1 dc hg,hr1.hp,λp hp=>tQ (hr1.hl p hp) ho1 dc hg,tQ hr1.hs ho1 dc hg,tQ hr1.ht ho1 dc hg⟩,ho7,t,f,i,by simp[l],(hb.ca h1).gr hg λq hq=>(by have h3:=(ho1.lt q hq).1;omega),aH hv (aH h1.size hg.size)⟩
theorem uO {s s'}{e}(h:ft bf fL s e=G s'):fL e=Q:=by
 unfold ft at h
 split at h
 ·rename_i hh;exact hh.1
 ·cases h
def uD (w:World)(v:Value)(L:List Ev):Prop:=
 ∃ A cap,v= Z A L.length cap/\∀ k (hk:k<L.length),∃ g off,A=G ⟨g,off,E⟩/\(w.cell? ⟨g,off+k*6,E⟩=G (I J L[k].kind)/\w.cell? ⟨g,off+k*6+1,E⟩=G (I J L[k].time)/\w.cell? ⟨g,off+k*6+2,E⟩=G (C L[k].user)/\w.cell? ⟨g,off+k*6+3,E⟩=G (C L[k].other)/\w.cell? ⟨g,off+k*6+4,E⟩=G (I J L[k].n)/\w.cell? ⟨g,off+k*6+5,E⟩=G (I J L[k].st))
theorem uD.bl{v}{L}(h:uD w v L)(hb:Bl w W):uD W v L:=
 let⟨A,cap,e,hc⟩:=h
 ⟨A,cap,e,λk hk=>let⟨g,off,e2,c0,c1,c2,c3,c4,c5⟩:=hc k hk;⟨g,off,e2,hb.ce c0,hb.ce c1,hb.ce c2,hb.ce c3,hb.ce c4,hb.ce c5⟩⟩
theorem uD.FK{A}{L}(h:uD w (Z A n cap) L)(k:Nat)(hk:k<L.length):
 ∃ g off,A=G ⟨g,off,E⟩/\(∀ W,Bl w W->W.cell? ⟨g,off+k*6,E⟩=G (I J L[k].kind))/\(∀ W,Bl w W->W.cell? ⟨g,off+k*6+1,E⟩=G (I J L[k].time))/\(∀ W,Bl w W->W.cell? ⟨g,off+k*6+2,E⟩=G (C L[k].user))/\(∀ W,Bl w W->W.cell? ⟨g,off+k*6+3,E⟩=G (C L[k].other))/\(∀ W,Bl w W->W.cell? ⟨g,off+k*6+4,E⟩=G (I J L[k].n))/\(∀ W,Bl w W->W.cell? ⟨g,off+k*6+5,E⟩=G (I J L[k].st)):=by
 obtain⟨A',cap',e,hc⟩:=h;injection e with e1 e2 e3
 subst e1;obtain⟨g,off,e2,c0,c1,c2,c3,c4,c5⟩:=hc k hk;exact⟨g,off,e2,λW hW=>hW.ce c0,λW hW=>hW.ce c1,λW hW=>hW.ce c2,λW hW=>hW.ce c3,λW hW=>hW.ce c4,λW hW=>hW.ce c5⟩
theorem Kd (s0)(v vl)(L)(n0:Nat)(w)(hs:lk w v s0)(hl:uD w vl L)(hI:ik n0 s0)(h60:n0+L.length<=60)(hsz:∀ e∈L,e.user.size<=9223372036854775807/\e.other.size<=9223372036854775807):
 Calls prog 24 #[v,vl] w λe w'=>∃ (v' vo:Value) (ak:List Int),e= .returned (.tuple #[v',vo])/\lk w' v' (mK s0 L)/\Rw zU 61 1 w' 0 vo ak/\ak.map (λx=>decide (x=0))=j9 s0 L/\Bl w w':=by
 obtain⟨vo,vu,vs,vt,P,rfl,hR⟩:=hs;obtain⟨⟨A1,n1,c1,rfl⟩,⟨A2,n2,c2,rfl⟩,⟨A3,n3,c3,rfl⟩,A4,n4,c4,rfl⟩:=hR.nr;have hl':=hl;obtain⟨A,cap,rfl,_⟩:=hl';obtain⟨m,hm,HM⟩:=nh L.length;rw[<-hm] at hl h60 ⊢;obtain⟨HL,HSZ⟩:=eN hl hsz;unfold jd;obtain⟨X,V,hX,hV,BX,BY,HB,HXw,SV⟩:=lj w #[I J s0.now,I J s0.fb,Z A1 n1 c1,Z A2 n2 c2,Z A3 n3 c3,Z A4 n4 c4] 37 #[av,av,aw,aw,aw,aw] 37;obtain⟨x0,x1,x2,x3,x4,x5⟩:=jg BX;obtain⟨y0,y1,y2,y3,y4,y5⟩:=jg BY;have HF0:=H (show Vp w X V.heap.size s0 L n0 0 aw V s0 A1 A2 A3 A4 n1 n2 n3 n4 c1 c2 c3 c4 P [] from⟨BX,BY,hR.bl HB,Rw.nil,D,D,hI,D,HB,aB _⟩);have hXw:w.heap.size<=X:=by have:=HXw.out;omega
 have HVX:=SV;clear hl hm hsz hR hI
 go_enter func24,ntmps24
 go_upto_region 1 with fail
 rw[<-hV,<-hX];clear hV hX
 go_wp2_with fail
 go_loopw [7,6] (λi o wr=>∃ k:Nat,k<=m/\i= I J k/\∃ s B1 B2 B3 B4 m1 m2 m3 m4 d1 d2 d3 d4 P ak,Vp w X V.heap.size s0 L n0 k o wr s B1 B2 B3 B4 m1 m2 m3 m4 d1 d2 d3 d4 P ak) (λi _ _=>m - (intOf i).toNat)
 case atStart=>exact⟨0,aD _,D,_,_,_,_,_,_,_,_,_,_,_,_,_,_,_,HF0⟩
 case round=>
  obtain⟨k,hk,rfl,s,C1,C2,C3,C4,p1,p2,p3,p4,f1,f2,f3,f4,P1,ak,hF⟩:=hrel;by_cases hlt:k<m
  ·have hk':k<L.length:=by rw[<-HM.out];exact hlt
   obtain⟨g,off,rfl,c0w,c1w,c2w,c3w,c4w,c5w⟩:=HL.FK k hk';obtain⟨TD,FD⟩:=eN (Ga (s:=s) hk') (G8 (s:=s) hk');have hz:=HSZ L[k] (aV hk');have APX:=λW (hW:Bl wr W)=>Gw s _ L[k] W (lk.bl ⟨_,_,_,_,P1,D,hF.r⟩ hW) (hF.i.f.up om) hF.i.m hF.i.u hF.i.t hz.1 hz.2;have IST:=H (λs' (h:ft bf fL s L[k]=G s')=>hF.i.step (by have:=jC (uO h);omega) (by have:=jC (uO h);omega) h);have hbw:=hF.b;have c0:∀ W,Bl wr W->_:=λW hW=>c0w W (hbw.ca hW);have c1:∀ W,Bl wr W->_:=λW hW=>c1w W (hbw.ca hW);have c2:∀ W,Bl wr W->_:=λW hW=>c2w W (hbw.ca hW);have c3:∀ W,Bl wr W->_:=λW hW=>c3w W (hbw.ca hW);have c4:∀ W,Bl wr W->_:=λW hW=>c4w W (hbw.ca hW);have c5:∀ W,Bl wr W->_:=λW hW=>c5w W (hbw.ca hW);generalize L[k]=x at*;have x0:=hF.x.all 0 D;have x1:=hF.x.all 1 D;have x2:=hF.x.all 2 D;have x3:=hF.x.all 3 D;have x4:=hF.x.all 4 D;have x5:=hF.x.all 5 D;obtain⟨i1,i2⟩:=ln (k:=k) (m:=m) om;obtain⟨HFI,HVR⟩:=eN hF (show V.heap.size<=wr.heap.size from hF.v);simp only[jd,Ev.v,Ev.cells] at APX;clear hF hbw c0w c1w c2w c3w c4w c5w hz;cases hst:ft bf fL s x with
   | none=>
    rw[hst] at APX TD FD;have AP:=H APX;clear hst
    go_upto_region 5 with fail
    refine jI (T:=TT) (S:=Bl wr) [10] trivial (Bl.dr Bl.eH) λhT0 hS0=>?_
    try dsimp only at hT0 hS0
    refine td 0 ?_;refine aaa [1,2,3] ?_;refine td 4 ?_;refine ti 5 9 (λKQ hK=>?_) λKQ hK=>?_
    focus
     go_simp
     (go_at_call 44;refine(AP _ hS0).mono ?_;rintro e w5 ⟨hb5,v5,E5,rfl,hE5,s5,hR5⟩)
     have hSC:=hS0;obtain⟨vo5,vu5,vs5,vt5,P5,rfl,hR5⟩:=hR5;obtain⟨⟨B1,m1,e1,rfl⟩,⟨B2,m2,e2,rfl⟩,⟨B3,m3,e3,rfl⟩,B4,m4,e4,rfl⟩:=hR5.nr;unfold jd
     try (replace hG:=hb5.bl hG;obtain⟨g0,g1,g2,g3,g4,g5⟩:=rX hG;have gf:=λj=>Bk.fr hG j)
     have hT1:TT w5:=trivial;have hS1:=hSC.ca hb5;refine kq hK ?_;refine aaa [6,7,8] ?_;refine eK 9 λKQ hK=>?_;go_simp;obtain⟨hG,hGs,hT2,hS2⟩:=alt hT1 hS1 #[av,av,aw,aw,aw,aw] 37
     try (replace hG:=zW hG;replace hGs:=zV hGs)
     obtain⟨g0,g1,g2,g3,g4,g5⟩:=jF hG;have gf:=λj=>Bk.fr hG j;refine kq hK ?_;refine eK 10 λKQ hK=>?_;go_simp;refine fJ (hK _ _) trivial (eI (j:=10) kr kr) (λhT3=>?_)
     try dsimp only at hT3
     try simp only[gz,fI]
     refine tz 11 hT3 (eI (j:=10) kr kr) ?_;refine iU ?_;have hL:=hS2
    rotate_left 1
    focus
     go_simp;obtain⟨hG,hGs,hT1,hS1⟩:=alt hT0 hS0 #[av,av,aw,aw,aw,aw] 37
     try (replace hG:=zW hG;replace hGs:=zV hGs)
     obtain⟨g0,g1,g2,g3,g4,g5⟩:=jF hG;have gf:=λj=>Bk.fr hG j;refine kq hK ?_;refine eK 5 λKQ hK=>?_;go_simp
     (go_at_call 44;refine(AP _ hS1).mono ?_;rintro e w5 ⟨hb5,v5,E5,rfl,hE5,s5,hR5⟩)
     have hSC:=hS1;obtain⟨vo5,vu5,vs5,vt5,P5,rfl,hR5⟩:=hR5;obtain⟨⟨B1,m1,e1,rfl⟩,⟨B2,m2,e2,rfl⟩,⟨B3,m3,e3,rfl⟩,B4,m4,e4,rfl⟩:=hR5.nr;unfold jd
     try (replace hG:=hb5.bl hG;obtain⟨g0,g1,g2,g3,g4,g5⟩:=rX hG;have gf:=λj=>Bk.fr hG j)
     have hT2:TT w5:=trivial;have hS2:=hSC.ca hb5;refine kq hK ?_;refine aaa [6,7,8] ?_;refine eK 10 λKQ hK=>?_;go_simp;refine fJ (hK _ _) trivial (eI (j:=10) kr kr) (λhT3=>?_)
     try dsimp only at hT3
     try simp only[gz,fI]
     refine tz 11 hT3 (eI (j:=10) kr kr) ?_;refine iU ?_;have hL:=hS2
    rotate_left 1
    all_goals
     first
      | (have q:Bk w5 _ 37 _:=hG
         have hL6:=hL.kO hGs (I J s5.now) (I J s5.fb) (Z B1 m1 e1) (Z B2 m2 e2) (Z B3 m3 e3) (Z B4 m4 e4);unfold kS at hL6;have r6:=hR5.pP hG (I J s5.now) (I J s5.fb) (Z B1 m1 e1) (Z B2 m2 e2) (Z B3 m3 e3) (Z B4 m4 e4);have k6:Bk _ _ 37 #[I J s5.now,I J s5.fb,Z B1 m1 e1,Z B2 m2 e2,Z B3 m3 e3,Z B4 m4 e4]:=Bk.set (Bk.set (Bk.set (Bk.set (Bk.set (Bk.set hG 0 (I J s5.now)) 1 (I J s5.fb)) 2 (Z B1 m1 e1)) 3 (Z B2 m2 e2)) 4 (Z B3 m3 e3)) 5 (Z B4 m4 e4);clear q hL hG hR5;generalize ((((((w5:World).setCell ⟨_,0,E⟩ (I J s5.now)).setCell ⟨_,1,E⟩ (I J s5.fb)).setCell ⟨_,2,E⟩ (Z B1 m1 e1)).setCell ⟨_,3,E⟩ (Z B2 m2 e2)).setCell ⟨_,4,E⟩ (Z B3 m3 e3)).setCell ⟨_,5,E⟩ (Z B4 m4 e4)=W6 at*)
      | (have hL6:=(hSC.ca hb5).al (.cells #[I J s5.now,I J s5.fb,Z B1 m1 e1,Z B2 m2 e2,Z B3 m3 e3,Z B4 m4 e4] 37)
         have k6:Bk _ _ 37 #[I J s5.now,I J s5.fb,Z B1 m1 e1,Z B2 m2 e2,Z B3 m3 e3,Z B4 m4 e4]:=eL w5 (.cells #[I J s5.now,I J s5.fb,Z B1 m1 e1,Z B2 m2 e2,Z B3 m3 e3,Z B4 m4 e4] 37);have r6:=hR5.bl (gl w5 (.cells #[I J s5.now,I J s5.fb,Z B1 m1 e1,Z B2 m2 e2,Z B3 m3 e3,Z B4 m4 e4] 37));clear hL hG hR5;generalize (w5.alloc (.cells #[I J s5.now,I J s5.fb,Z B1 m1 e1,Z B2 m2 e2,Z B3 m3 e3,Z B4 m4 e4] 37))=W6 at*)
    all_goals
     have HW6:=H hL6;have e9:(E5==0)=z:=by simp[hE5]
     have HO6:=H (HFI.o.bl hL6);have hel:ak.length<=99999:=by have:=HFI.l;omega
     obtain⟨HAL,tE,fE⟩:=gi (aH HVR hL6.size) (show(ak++[E5]).map (λx=>decide (x=0))++j9 s (L.drop (k+1))=j9 s0 L by rw[<-HFI.out.t,TD.out];simp[hE5]) (show mK s (L.drop (k+1))=mK s0 L by rw[<-HFI.out.f,FD.out]);have FN:=H (λ(W:World) (hW:Bl W6 W) (ov:Value) (ho:Rw zU 61 1 W V.heap.size ov ak) (ob:Obj) (w7:World) (v7:Value) (hg7:(W.alloc ob).grownBy w7 ov.ownBlock) (ho7:Rw zU 61 1 w7 V.heap.size v7 (ak++[E5]))=>
      (Vp.app (n0:=n0) (k:=k) (s0:=s0) (L:=L) (s:=s) ((HW6.ca hW).bl HFI.x) ((HW6.ca hW).bl HFI.y) (HFI.r.bl (HW6.ca hW)) ho (HFI.b.ca (HW6.ca hW)) (show X+1<V.heap.size by have:=HVX.out;omega) HB.size (aH HAL hW.size) hg7 ho7 tE fE (HFI.i.up om) HFI.l:Vp w X V.heap.size s0 L n0 (k+1) v7 w7 s C1 C2 C3 C4 p1 p2 p3 p4 f1 f2 f3 f4 P1 (ak++[E5])))
     clear hL6 hE5
     go_wp2_with (at_builtin;refine QY MM D _ _ D V.heap.size (HO6.bl jB) D D (eL _ _) (y:=E5) D D (ug _) hel (by have h1:=HAL.out;simp;omega) ?_;intro v7 w7 ho7 hg7)
     have FN7:=FN _ jB _ (HO6.bl jB) _ w7 v7 hg7 ho7;exact⟨⟨k+1,om,eB,s,C1,C2,C3,C4,p1,p2,p3,p4,f1,f2,f3,f4,P1,ak++[E5],FN7⟩,eE⟩
   | some s'=>
    rw[hst] at APX TD FD;obtain⟨AP,IS⟩:=eN APX (IST s' hst);clear hst
    go_upto_region 5 with fail
    refine jI (T:=TT) (S:=Bl wr) [10] trivial (Bl.dr Bl.eH) λhT0 hS0=>?_
    try dsimp only at hT0 hS0
    refine td 0 ?_;refine aaa [1,2,3] ?_;refine td 4 ?_;refine ti 5 9 (λKQ hK=>?_) λKQ hK=>?_
    focus
     go_simp
     (go_at_call 44;refine(AP _ hS0).mono ?_;rintro e w5 ⟨hb5,v5,E5,rfl,hE5,hR5⟩;subst hE5)
     have hSC:=hS0;obtain⟨vo5,vu5,vs5,vt5,P5,rfl,hR5⟩:=hR5;obtain⟨⟨B1,m1,e1,rfl⟩,⟨B2,m2,e2,rfl⟩,⟨B3,m3,e3,rfl⟩,B4,m4,e4,rfl⟩:=hR5.nr;unfold jd
     try (replace hG:=hb5.bl hG;obtain⟨g0,g1,g2,g3,g4,g5⟩:=rX hG;have gf:=λj=>Bk.fr hG j)
     have hT1:TT w5:=trivial;have hS1:=hSC.ca hb5;refine kq hK ?_;refine aaa [6,7,8] ?_;refine eK 9 λKQ hK=>?_;go_simp;obtain⟨hG,hGs,hT2,hS2⟩:=alt hT1 hS1 #[av,av,aw,aw,aw,aw] 37
     try (replace hG:=zW hG;replace hGs:=zV hGs)
     obtain⟨g0,g1,g2,g3,g4,g5⟩:=jF hG;have gf:=λj=>Bk.fr hG j;refine kq hK ?_;refine eK 10 λKQ hK=>?_;go_simp;refine fJ (hK _ _) trivial (eI (j:=10) kr kr) (λhT3=>?_)
     try dsimp only at hT3
     try simp only[gz,fI]
     refine tz 11 hT3 (eI (j:=10) kr kr) ?_;refine iU ?_;have hL:=hS2
    rotate_left 1
    focus
     go_simp;obtain⟨hG,hGs,hT1,hS1⟩:=alt hT0 hS0 #[av,av,aw,aw,aw,aw] 37
     try (replace hG:=zW hG;replace hGs:=zV hGs)
     obtain⟨g0,g1,g2,g3,g4,g5⟩:=jF hG;have gf:=λj=>Bk.fr hG j;refine kq hK ?_;refine eK 5 λKQ hK=>?_;go_simp
     (go_at_call 44;refine(AP _ hS1).mono ?_;rintro e w5 ⟨hb5,v5,E5,rfl,hE5,hR5⟩;subst hE5)
     have hSC:=hS1;obtain⟨vo5,vu5,vs5,vt5,P5,rfl,hR5⟩:=hR5;obtain⟨⟨B1,m1,e1,rfl⟩,⟨B2,m2,e2,rfl⟩,⟨B3,m3,e3,rfl⟩,B4,m4,e4,rfl⟩:=hR5.nr;unfold jd
     try (replace hG:=hb5.bl hG;obtain⟨g0,g1,g2,g3,g4,g5⟩:=rX hG;have gf:=λj=>Bk.fr hG j)
     have hT2:TT w5:=trivial;have hS2:=hSC.ca hb5;refine kq hK ?_;refine aaa [6,7,8] ?_;refine eK 10 λKQ hK=>?_;go_simp;refine fJ (hK _ _) trivial (eI (j:=10) kr kr) (λhT3=>?_)
     try dsimp only at hT3
     try simp only[gz,fI]
     refine tz 11 hT3 (eI (j:=10) kr kr) ?_;refine iU ?_;have hL:=hS2
    rotate_left 1
    all_goals
     first
      | (have q:Bk w5 _ 37 _:=hG
         have hL6:=hL.kO hGs (I J s'.now) (I J s'.fb) (Z B1 m1 e1) (Z B2 m2 e2) (Z B3 m3 e3) (Z B4 m4 e4);unfold kS at hL6;have r6:=hR5.pP hG (I J s'.now) (I J s'.fb) (Z B1 m1 e1) (Z B2 m2 e2) (Z B3 m3 e3) (Z B4 m4 e4);have k6:Bk _ _ 37 #[I J s'.now,I J s'.fb,Z B1 m1 e1,Z B2 m2 e2,Z B3 m3 e3,Z B4 m4 e4]:=Bk.set (Bk.set (Bk.set (Bk.set (Bk.set (Bk.set hG 0 (I J s'.now)) 1 (I J s'.fb)) 2 (Z B1 m1 e1)) 3 (Z B2 m2 e2)) 4 (Z B3 m3 e3)) 5 (Z B4 m4 e4);clear q hL hG hR5;generalize ((((((w5:World).setCell ⟨_,0,E⟩ (I J s'.now)).setCell ⟨_,1,E⟩ (I J s'.fb)).setCell ⟨_,2,E⟩ (Z B1 m1 e1)).setCell ⟨_,3,E⟩ (Z B2 m2 e2)).setCell ⟨_,4,E⟩ (Z B3 m3 e3)).setCell ⟨_,5,E⟩ (Z B4 m4 e4)=W6 at*)
      | (have hL6:=(hSC.ca hb5).al (.cells #[I J s'.now,I J s'.fb,Z B1 m1 e1,Z B2 m2 e2,Z B3 m3 e3,Z B4 m4 e4] 37)
         have k6:Bk _ _ 37 #[I J s'.now,I J s'.fb,Z B1 m1 e1,Z B2 m2 e2,Z B3 m3 e3,Z B4 m4 e4]:=eL w5 (.cells #[I J s'.now,I J s'.fb,Z B1 m1 e1,Z B2 m2 e2,Z B3 m3 e3,Z B4 m4 e4] 37);have r6:=hR5.bl (gl w5 (.cells #[I J s'.now,I J s'.fb,Z B1 m1 e1,Z B2 m2 e2,Z B3 m3 e3,Z B4 m4 e4] 37));clear hL hG hR5;generalize (w5.alloc (.cells #[I J s'.now,I J s'.fb,Z B1 m1 e1,Z B2 m2 e2,Z B3 m3 e3,Z B4 m4 e4] 37))=W6 at*)
    all_goals
     obtain⟨HW6,HX6,HR6,HO6⟩:=kB hL6 (hL6.bl HFI.x) r6 (HFI.o.bl hL6);have hel:ak.length<=99999:=by have:=HFI.l;omega
     obtain⟨HAL,tE,fE⟩:=gi (aH HVR hL6.size) (show(ak++[(0:Int)]).map (λx=>decide (x=0))++j9 s' (L.drop (k+1))=j9 s0 L by rw[<-HFI.out.t,TD.out];simp) (show mK s' (L.drop (k+1))=mK s0 L by rw[<-HFI.out.f,FD.out]);obtain⟨q0,q1,q2,q3,q4,q5⟩:=rX HX6;obtain⟨k0,k1,k2,k3,k4,k5⟩:=jF k6;have qf:=λj=>Bk.fr HX6 j
     go_upto_region 8 with fail
     obtain⟨W7,hW7⟩:=fe ((((((W6.setCell ⟨X,0,E⟩ (I J s'.now)).setCell ⟨X,1,E⟩ (I J s'.fb)).setCell ⟨X,2,E⟩ (Z B1 m1 e1)).setCell ⟨X,3,E⟩ (Z B2 m2 e2)).setCell ⟨X,4,E⟩ (Z B3 m3 e3)).setCell ⟨X,5,E⟩ (Z B4 m4 e4));rw[<-hW7];have HB7:=H (show Bl w W7 by rw[hW7];exact jX (HFI.b.ca HW6) hXw _ _ _ _ _ _);have HX7:=H (show Bk W7 X 37 #[I J s'.now,I J s'.fb,Z B1 m1 e1,Z B2 m2 e2,Z B3 m3 e3,Z B4 m4 e4] by rw[hW7];exact Bk.set (Bk.set (Bk.set (Bk.set (Bk.set (Bk.set HX6 0 _) 1 _) 2 _) 3 _) 4 _) 5 _);have HY7:=H (show Bk W7 (X+1) 37 _ by rw[hW7];exact(aa0 _ ⟨X,5,E⟩ _ (X+1) (show X+1≠X by omega)).trans ((aa0 _ ⟨X,4,E⟩ _ (X+1) (show X+1≠X by omega)).trans ((aa0 _ ⟨X,3,E⟩ _ (X+1) (show X+1≠X by omega)).trans ((aa0 _ ⟨X,2,E⟩ _ (X+1) (show X+1≠X by omega)).trans ((aa0 _ ⟨X,1,E⟩ _ (X+1) (show X+1≠X by omega)).trans ((aa0 _ ⟨X,0,E⟩ _ (X+1) (show X+1≠X by omega)).trans (HW6.bl HFI.y)))))));obtain⟨HR7,HO7,HS7⟩:=gi (show mU W7 (Z B1 m1 e1) (Z B2 m2 e2) (Z B3 m3 e3) (Z B4 m4 e4) s' P5 by rw[hW7];exact HR6.pP HX6 _ _ _ _ _ _) (show Rw zU 61 1 W7 V.heap.size _ ak by rw[hW7];exact HO6.pP HX6 dc _ _ _ _ _ _) (show W6.heap.size<=W7.heap.size by rw[hW7];simp);clear hW7 hL6;have FN:=H (λ(ob:Obj) (w7:World) (v7:Value) hg7 (ho7:Rw zU 61 1 w7 V.heap.size v7 (ak++[(0:Int)]))=>
      (Vp.app (n0:=n0) (k:=k) (s0:=s0) (L:=L) (s:=s') (ob:=ob) HX7 HY7 HR7 HO7 HB7 (show X+1<V.heap.size by have:=HVX.out;omega) HB.size (aH HAL HS7) hg7 ho7 tE fE IS HFI.l:Vp w X V.heap.size s0 L n0 (k+1) v7 w7 s' B1 B2 B3 B4 m1 m2 m3 m4 e1 e2 e3 e4 P5 (ak++[(0:Int)])))
     go_wp2_with (at_builtin;refine QY MM D _ _ D V.heap.size (HO7.bl jB) D D (eL _ _) (y:=(0:Int)) D D (ug _) hel (by have h1:=HAL.out;have h2:=HS7.out;simp;omega) ?_;intro v7 w7 ho7 hg7)
     exact⟨⟨k+1,om,eB,s',B1,B2,B3,B4,m1,m2,m3,m4,e1,e2,e3,e4,P5,ak++[(0:Int)],FN _ w7 v7 hg7 ho7⟩,eE⟩
  ·have ek:k=m:=om;have i1:¬(k:Int)<m:=om;have HFI:=H hF;have hd:L.drop k=[]:=by rw[ek,HM.out,bX]
   obtain⟨F9,TS⟩:=eN (show mK s0 L=s by rw[<-hF.f,hd];rfl) (show ak.map (λx=>decide (x=0))=j9 s0 L by rw[<-hF.t,hd];simp[j9]);obtain⟨q0,q1,q2,q3,q4,q5⟩:=rX hF.x;obtain⟨p0',p1',p2',p3',p4',p5'⟩:=rX hF.y;have pf:=λj=>Bk.fr hF.y j;clear hd hF ek
   go_wp2_with fail
   exact aa1 (eM (p:=4) (a:=5) D _ _ _ _ _ _ _ D (show Bk _ (X+1) _ #[I J s.now,I J s.fb,Z C1 p1 f1,Z C2 p2 f2,Z C3 p3 f3,Z C4 p4 f4] from Bk.set (Bk.set (Bk.set (Bk.set (Bk.set (Bk.set HFI.y 0 _) 1 _) 2 _) 3 _) 4 _) 5 _) underlying37 D iN) D ⟨_,_,D,by rw[F9.out];exact⟨_,_,_,_,P1,D,HFI.r.pP HFI.y _ _ _ _ _ _⟩,ak,(HFI.o.pP HFI.y dc _ _ _ _ _ _).iD,TS,jX HFI.b om _ _ _ _ _ _⟩
def Mm:List Int->List Ev->List Ev
 | n::ak,x::L=>if n=0 then x::Mm ak L else Mm ak L
 | _,_=>[]
theorem uZ:∀ (L:List Ev) (ak:List Int) (s:St),ak.map (λx=>decide (x=0))=j9 s L->Mm ak L=taken bf fL s L
 | [],[],_,_=>rfl
 | [],_::_,_,h=>by simp[j9] at h
 | e::r,[],s,h=>by unfold j9 at h;split at h<;>simp at h
 | e::r,n::ak,s,h=>by
   unfold j9 at h;unfold Mm taken;cases hs:ft bf fL s e with
   | none=>
    rw[hs] at h;simp only[bC,List.cons.injEq] at h;rw[az (ey h.1)];exact uZ r ak s h.2
   | some s'=>
    rw[hs] at h;simp only[bC,List.cons.injEq] at h;rw[aA (bo h.1),uZ r ak s' h.2]
theorem O9 {L:List Ev}{ak:List Int}(hk:k<L.length)(he:k<ak.length):Mm (ak.drop k) (L.drop k)=(if ak[k]=0 then [L[k]] else [])++Mm (ak.drop (k+1)) (L.drop (k+1)):=by
 rw[aR hk,aR he,Mm]
 split<;>rfl
theorem xj:∀ (L:List Ev) (s:St),(j9 s L).length=L.length
 | [],_=>rfl
 | e::r,s=>by
   unfold j9
   split
   ·simp[xj r s]
   ·simp[xj r]
theorem TC (ak:List Int):Mm ak []=[]:=by cases ak<;>rfl
theorem xF (s0)(v vl)(L)(n0:Nat)(w)(hs:lk w v s0)(hl:uD w vl L)(hI:ik n0 s0)(h60:n0+L.length<=60)(hsz:∀ e∈L,e.user.size<=9223372036854775807/\e.other.size<=9223372036854775807):
 Calls prog 6 #[v,vl] w λe w'=>∃ vo,e= .returned vo/\Rw Ev.cs 26 6 w' 0 vo (taken bf fL s0 L)/\Bl w w':=by
 have FO:=λW (hW:Bl w W)=>Kd s0 v vl L n0 W (hs.bl hW) (hl.bl hW) hI h60 hsz;have hl':=hl;obtain⟨A,cap,rfl,_⟩:=hl';obtain⟨m,hm,HM⟩:=nh L.length;rw[<-hm] at hl h60 FO ⊢;have HL:=H hl;obtain⟨R,hR,HRR⟩:=nh (taken bf fL s0 L);rw[<-hR];obtain⟨vo,vu,vs,vt,P,rfl,hRR⟩:=hs;obtain⟨⟨A1,n1,d1,rfl⟩,⟨A2,n2,d2,rfl⟩,⟨A3,n3,d3,rfl⟩,A4,n4,d4,rfl⟩:=hRR.nr;unfold jd at FO ⊢;replace FO:=H FO;obtain⟨X,V,hX,hV,BX,HB,HXw,SV⟩:=gC w #[I J s0.now,I J s0.fb,Z A1 n1 d1,Z A2 n2 d2,Z A3 n3 d3,Z A4 n4 d4] 37;obtain⟨x0,x1,x2,x3,x4,x5⟩:=jg BX;have hb0:=br V;clear hl hm hsz hI hR hRR
 go_enter func6,ntmps6
 go_upto_region 1 with fail
 rw[<-hV,<-hX];clear hV hX
 go_upto_region 2 with(go_at_call 24;refine(FO _ HB).mono ?_;rintro e w4 ⟨v5,o5,ak,rfl,hS0,hE,hT,hb4⟩;obtain⟨vo5,vu5,vs5,vt5,P5,rfl,hr5⟩:=hS0;obtain⟨⟨B1,m1,e1,rfl⟩,⟨B2,m2,e2,rfl⟩,⟨B3,m3,e3,rfl⟩,B4,m4,e4,rfl⟩:=hr5.nr;clear hr5;unfold jd;generalize mK s0 L=s5)
 obtain⟨A5,n5,c5,rfl⟩:=hE.fR;obtain⟨HE,HN,HK,HB4⟩:=kB hE (show ak.length=m by have h1:=aP List.length hT;simp only[bg] at h1;rw[h1,HM.out];exact xj L s0) (show R=Mm ak L by rw[HRR.out];exact(uZ L ak s0 hT).symm) (HB.ca hb4);obtain⟨hn5,hc5⟩:n5=m/\m<=c5:=by obtain⟨A',c',h1,h2,_⟩:=hE.form;injection h1 with h1 h2' h3;have:=HN.out;omega
 subst hn5;clear hE;obtain⟨V5,an,hV5,hG,BG,LV5⟩:=iC w4 #[I J s5.now,I J s5.fb,Z B1 m1 e1,Z B2 m2 e2,Z B3 m3 e3,Z B4 m4 e4] 37;rw[<-hV5,<-hG];clear hV5;replace hG:=H hG;obtain⟨g0,g1,g2,g3,g4,g5⟩:=jg BG;replace HB4:=H (HB4.ca LV5);replace HE:=H (HE.bl LV5)
 go_wp2_with fail
 go_loopw [8,7] (λi o wr=>∃ k:Nat,k<=n5/\i= I J k/\∃ O,Rw Ev.cs 26 6 wr V5.heap.size o O/\Hid (R=O++Mm (ak.drop k) (L.drop k))/\O.length<=k/\Bl V5 wr) (λi _ _=>n5 - (intOf i).toNat)
 case atStart=>exact⟨0,aD _,D,[],Rw.nil,HK,aD _,Bl.eH⟩
 case round=>
  obtain⟨k,hk,rfl,O,ho,hO,hlen,hb⟩:=hrel;by_cases hlt:k<n5
  ·have hk':k<L.length:=by rw[<-HM.out];exact hlt
   have hke:k<ak.length:=by rw[HN.out];exact hlt
   obtain⟨g,off,rfl,c0,c1,c2,c3,c4,c5⟩:=HL.FK k hk';obtain⟨g5,rfl,_,_,d0⟩:=HE.Js (f:=zU) (c0:=λx=>I J x) (λ_=>rfl) k hke;have KD:=H (O9 hk' hke);generalize L[k]=x at*;generalize ak[k]=y at*;obtain⟨i1,i2⟩:=ln (k:=k) (m:=n5) om;obtain⟨HBk,HO⟩:=eN hb ho;have q0:=c0 wr (HB4.ca hb);have q1:=c1 wr (HB4.ca hb);have q2:=c2 wr (HB4.ca hb);have q3:=c3 wr (HB4.ca hb);have q4:=c4 wr (HB4.ca hb);have q5:=c5 wr (HB4.ca hb);have q6:=d0 wr hb;clear ho;by_cases h0:y=0
   ·have HQ:=H (show R=(O++[x])++Mm (ak.drop (k+1)) (L.drop (k+1)) by rw[hO.out,KD.out,aA h0];simp);have e1:(y==0)=Q:=by simp[h0]
    clear h0 hO
    go_wp2_with (at_builtin;refine fH UR D _ _ D V5.heap.size D (HO.bl (gl _ _)) D (eL _ _) (y:=x) D D (Ha _) om (HBk.al _).size ?_;intro v7 w7 ho7 hb7)
    exact⟨⟨k+1,om,eB,_,ho7,HQ,eC,hb7 V5 D (HBk.al _)⟩,eE⟩
   ·have HQ:=H (show R=O++Mm (ak.drop (k+1)) (L.drop (k+1)) by rw[hO.out,KD.out,az h0];rfl);have e1:(y==0)=z:=by simp[h0]
    clear h0 hO
    go_wp2_with fail
    exact⟨⟨k+1,om,eB,_,HO,HQ,om,HBk⟩,eE⟩
  ·have ek:k=n5:=om;have i1:¬(k:Int)<n5:=om;obtain⟨HQ,HBk,HO⟩:=gi (show R=O by rw[hO.out,ek,HM.out,bX,TC,aY]) hb ho;clear ho hO
   go_wp2_with fail
   go_ret;exact⟨_,D,by rw[HQ.out];exact HO.iD,HB4.ca HBk⟩
theorem Dp (L)(u:ay)(v)(b:Nat)(w)(h:Rw Ev.cs 26 6 w b v L)(hn:L.length<=1000):
 Calls prog 8 #[v,C u] w λe w'=>∃ v',e= .returned v'/\Rw Ev.cs 26 6 w' 0 v' (Mk L u)/\Bl w w':=by
 obtain⟨A,cap,rfl,hnc,hcap⟩:=h.form;have HR:=H h;obtain⟨m,hm,HM⟩:=nh L.length;rw[<-hm] at hnc hn ⊢;obtain⟨p,hp⟩:=fe (λe:Ev=>decide (3<e.kind∨e.user≠u));obtain⟨HP,HRS⟩:=eN (λx:Ev=>show p x=decide (3<x.kind∨x.user≠u) by rw[hp]) (show Mk L u=L.filter p by rw[hp];rfl);clear h hm hp
 go_enter func8,ntmps8
 go_wp2_with fail
 go_loopw [10,5] (λi o wr=>∃ k:Nat,k<=m/\i= I J k/\Rw Ev.cs 26 6 wr w.heap.size o ((L.take k).filter p)/\Bl w wr) (λi _ _=>m - (intOf i).toNat)
 case atStart=>exact⟨0,aD _,D,Rw.nil,Bl.eH⟩
 case round=>
  obtain⟨k,hk,rfl,ho,hb⟩:=hrel;by_cases hlt:k<m
  ·have hk':k<L.length:=by rw[<-HM.out];exact hlt
   obtain⟨g,rfl,_,_,c0,c1,c2,c3,c4,c5⟩:=HR.FK k hk';have FT:=H (rV p hk');have hlen:=mR p L k;generalize L[k]=x at*;obtain⟨i1,i2⟩:=ln (k:=k) (m:=m) om;obtain⟨HBk,HO⟩:=eN hb ho;obtain⟨q0,q1,q2,q3,q4,q5⟩:=uV c0 c1 c2 c3 c4 c5 wr hb;have E1:(x.user.toList==u.toList)=decide (x.user=u):=gS;have PX:=HP x;clear ho
   go_upto_region 5 with fail
   obtain⟨V1,an,hV1,hG,BG,LV1⟩:=iC wr #[I J x.kind,I J x.time,C x.user,C x.other,I J x.n,I J x.st] 26;rw[<-hV1,<-hG];clear hV1;replace hG:=H hG;obtain⟨g0,g1,g2,g3,g4,g5⟩:=jg BG;obtain⟨r0,r1,r2,r3,r4,r5⟩:=uV g0 g1 g2 g3 g4 g5 V1 Bl.eH;by_cases h1:x.kind>3
   ·have FN:=H (show(L.take (k+1)).filter p=(L.take k).filter p++[x] by rw[FT.out,PX,aA (by simp[h1])]);clear PX;exact qO
   ·by_cases h2:x.user=u
    ·rw[aF h2] at E1;have FN:=H (show(L.take (k+1)).filter p=(L.take k).filter p by rw[FT.out,PX,az (by simp[h2];omega),aY]);clear h2 PX
     go_wp2_with fail
     exact⟨⟨k+1,hlt,eB,by rw[FN.out];exact HO.bl LV1,HBk.ca LV1⟩,eE⟩
    ·rw[aC h2] at E1;have FN:=H (show(L.take (k+1)).filter p=(L.take k).filter p++[x] by rw[FT.out,PX,aA (by simp[h2])]);clear h2 PX;exact qO
  ·have ek:k=m:=om;have i1:¬(k:Int)<m:=om;have HBk:=H hb;rw[ek,HM.out,aT] at ho;have HO:=H ho;clear ho
   go_wp2_with fail
   go_ret;exact⟨_,D,by rw[HRS.out];exact HO.iD,HBk⟩
