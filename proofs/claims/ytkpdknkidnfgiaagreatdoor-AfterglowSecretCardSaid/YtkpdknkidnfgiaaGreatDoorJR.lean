/- Lemmas for AfterglowSecret: what functions of the program return; no condition. -/
import Derived.Test.YtkpdknkidnfgiaaGreatDoorJP
import Derived.Test.YtkpdknkidnfgiaaGreatDoorJQ
set_option maxHeartbeats 0
set_option maxRecDepth 100000
set_option linter.unusedVariables false
open Go.Value renaming int->I,string->C,slice->Z
open Go.IntKind renaming i64->J,u8->U
open Option renaming none->E,some->G
open Bool renaming true->Q,false->z
open Go.Lib renaming hid->H
open Go.Proofs.Tryz
namespace Go.Proofs.YtkpdknkidnfgiaaGreatDoor
theorem rh{p:Prop}(h:p:=by
 go_wp2_with ((go_at_call 198;refine(SO _ (HB.ca H2)).mono ?_;rintro e w3 ⟨v3,M,rfl,hM,hr3,hb3⟩;obtain⟨A3,c3,rfl,_,_⟩:=hr3.form))
 have hml:M.length<=1000:=by rw[hM.length_eq];have h1:=IE u t s.op;have h2:=hn.no;omega
 have HP:=H (show(aq++M).Perm (SS s u t) by unfold SS;rw[DU.out];exact hM.append_left aq);have HOK:=H (λx (hx:x∈M)=>Wy (hM.mem_iff.1 hx));have HR3:=H hr3;have HB3:=H ((HB.ca H2).ca hb3);have HO3:=H (Rw.bl HD hb3);obtain⟨m,hm,HM⟩:=nh M.length;rw[<-hm] at hml ⊢;clear hM hm
 go_loopw [33,7] (λi o wr=>∃ k:Nat,k<=m/\i= I J k/\(∃ O,Rw eP.cs 112 4 wr w.heap.size o O/\O.Perm (aq++M.take k))/\Bl w3 wr) (λi _ _=>m - (intOf i).toNat)
 case atStart=>exact⟨0,aD _,D,⟨aq,HO3,sm⟩,Bl.eH⟩
 case round=>
  obtain⟨k,hk,rfl,⟨O,hO,hOp⟩,hb⟩:=hrel;by_cases hlt:k<m
  ·have hk':k<M.length:=by rw[<-HM.out];exact hlt
   obtain⟨x,hxk⟩:∃ x,M[k]?=G x:=⟨_,aW hk'⟩;obtain⟨g3,rfl,_,c0,c1,c2,c3⟩:=Rw.XO (HR3.bl hb) hxk;have hxM:M[k]=x:=by rw[aW hk'] at hxk;injection hxk
   have MT:=H (show(aq++M.take (k+1))=(aq++M.take k)++[x] by rw[aL hk',hxM,aS]);have hol:O.length<=2000:=by rw[hOp.length_eq,aU,aK];omega
   have AD:=λW (hW:Bl wr W)=>Jv O _ w.heap.size x W (HOK x (by rw[<-hxM];exact aV hk')) (hO.bl hW) om;unfold eP.v at AD;replace AD:=H AD;have i1:(k:Int)<(m:Int):=om;have i2:(0:Int)<=(k:Int):=om;have HBk:=H hb;have HOp:=H hOp;have hb0:=br wr;clear hO hOp hxk hxM
   go_upto_region 8 with fail
   obtain⟨V2,G2,hV2,hG2,BG2,LV2⟩:=iC wr #[I J x.a,I J x.b,I J x.n,I J x.st] 112;rw[<-hV2,<-hG2];clear hV2;replace hG2:=H hG2;obtain⟨g20,g21,g22,g23⟩:=pw BG2;have hb0:=br V2
   go_wp2_with ((go_at_call 199;refine(AD _ LV2).mono ?_;rintro e w6 ⟨v6,rfl,hr6,hb6⟩))
   exact⟨⟨k+1,hlt,by go_num,⟨mQ O x,fa hr6 (HB3.ca (HBk.ca LV2)).size,by rw[MT.out];exact(pc O x).trans ((HOp.cons x).trans (cZ (l₁:=[x])))⟩,(HBk.ca LV2).ca hb6⟩,by simp[intOf];omega⟩
  ·have ek:k=m:=om;have i1:¬(k:Int)<(m:Int):=om;have FIN:=H (show O.Perm (SS s u t) by rw[ek,HM.out,aT] at hOp;exact hOp.trans HP);have HO:=H hO;have HBk:=H hb;clear hO hOp
   go_wp2_with fail
   go_ret;exact⟨_,D,O,HO,FIN,HB3.ca HBk⟩):p:=h
theorem nN{p:Prop}(h:p:=by
 go_enter func119,ntmps119
 go_upto_region 1 with fail
 rw[<-hV,<-hA];clear hV hA
 go_wp2_with ((go_at_call 186;refine(PR _).mono ?_;rintro e w1 ⟨rfl,hb1⟩))
 go_ret;exact⟨by rw[HE.out];rfl,HB.ca hb1⟩):p:=h
theorem qL{p:Prop}(h:p:=by
 unfold grow putRow mapBlock;simp only[];rw[dU (by simpa using hlt),di,aA D];show Option.map _ w.heap[g]?=_;rw[hg];rfl):p:=h
variable {u:ByteArray} {xs:List Value} {cap g n:Nat} {w:World}
namespace Tp
open Go Go.RowKit Go.Lib
open Ds.DkM (bf gj ij gQ mY iZ)
open Ds (fP)
theorem IE (u)(t:Int)(L):(tl [] u t L).length<=L.length:=by
 unfold tl;refine aH (bp _ _) ?_;rw[bg];exact bp _ _
theorem Wy{t:Int}{L}{x:eP}(h:x∈tl [] u t L):x.ok=Q:=by
 unfold tl at h;exact(aa9.1 h).2
theorem JW (s)(v)(b:Nat)(u:ay)(t:Int)(w)(h:iW w b v s)(hn:UI s)(ho:Ord il.u bf s.us):
 Calls prog 121 #[v,C u,I J t] w λe w'=>∃ v' O,e= .returned v'/\Rw eP.cs 112 4 w' w.heap.size v' O/\O.Perm (SS s u t)/\Bl w w':=by
 obtain⟨vo,vu,vs,vt,ul,rfl,hr⟩:=h;unfold jd;obtain⟨hKl,p1,p2,p3⟩:=plU ul s.us _ w hr.hl ho u;obtain⟨K,hK⟩:=fe (pH il.u bf s.us u);have hne:=UW ZE (l:=s.us) (u:=u);rw[<-hK] at hKl p1 p2 p3 hne;have PL:=H (λW (hb:Bl w W)=>show aai 195 #[vu,C u,.func (.func 196) #[] #[]] W (.tuple #[I J K,.bool (mi s.us u)]) by
  have k:=Gx ul u vu b K W (hr.hu.bl hb) lZ hKl p1 p2;rw[p3] at k;exact k)
 have SO:=H (λW (hb:Bl w W)=>Gg s.op u t vo b W (hr.ho.bl hb) hn.no);obtain⟨Ao,co,rfl,_,_⟩:=hr.ho.form;obtain⟨As,cs,rfl,_,_⟩:=hr.hs.form;obtain⟨At,ct,rfl,_,_⟩:=hr.ht.form;obtain⟨Au,cu,rfl,_,_⟩:=hr.hu.form;have HR:=H hr;have hlu:ul.length<=1000:=by have:=hn.nu;have:=hr.hl.1;omega
 obtain⟨A,V,hA,hV,BA,HB,HAw,SV⟩:=gC w #[I J s.now,I J s.fb,Z Ao s.op.length co,Z Au ul.length cu,Z As s.sb.length cs,Z At s.tb.length ct] 131;obtain⟨a0,a1,a2,a3,a4,a5⟩:=jg BA;clear hr;have hb0:=br V;cases hu:mi s.us u with
 | true=>
  rw[hu] at PL p3;obtain⟨hk,hku⟩:=bo p3;have hl:=HR.hl.1;have hk1:K<s.us.length:=om;obtain⟨hnm,hrow⟩:=HR.hl.2 K hk hk1;have OU:=H (On hk1 hne (by rw[<-hnm];exact hku));obtain⟨g,rfl,hbg,hgl,c0,c1⟩:=(HR.hu.bl HB).Cm (f:=UC.cs) (c0:=λx=>C x.u) (c1:=λx=>Z x.A x.n x.c) (λ_=>rfl) K hk;have CL:=λW (hb:Bl w W)=>clnStay j0 W (hrow.bl hb) (by have:=hn.nl _ (aV hk1);omega);unfold UC.sv at CL;replace CL:=H CL;have i1:(K:Int)<(ul.length:Int):=om;have i2:(0:Int)<=(K:Int):=om;obtain⟨y,hy⟩:=fe (ul[K]);rw[<-hy] at c1 CL;obtain⟨aq,hD⟩:=fe (s.us[K].l);rw[<-hD] at CL;have DU:=H (show kR s.us u=aq by rw[OU.out,hD]);have hDl:aq.length<=1000:=by rw[hD];exact hn.nl _ (aV hk1)
  clear hku hnm p3 hne hrow hl hKl hu hK hgl hbg hy hD
  go_enter func121,ntmps121
  go_upto_region 1 with fail
  rw[<-hV,<-hA];clear hV hA
  go_upto_region 5 with(first | (go_at_call 195;refine qx (PL _ HB) λw1 hb1=>?_) | (go_at_call 197;refine aaj (CL _ (HB.ca hb1)) λv2 w2 hr2 hb2=>?_))
  obtain⟨A7,c7,rfl,_,_⟩:=hr2.form;obtain⟨HD,H2⟩:=eN (fa hr2 (HB.ca hb1).size:Rw eP.cs 112 4 w2 w.heap.size _ aq) (hb1.ca hb2);have a2:=a2 w2 (hb1.ca hb2);exact rh
 | false=>
  rw[hu] at PL;obtain⟨aq,hD⟩:∃ aq:List eP,aq=[]:=⟨_,D⟩;have DU:=H (show kR s.us u=aq by rw[hD];exact tX hu);have hDl:aq.length<=1000:=by rw[hD];simp
  have HD0:=H (λW=>show Rw eP.cs 112 4 W w.heap.size aw aq by rw[hD];exact Rw.nil);clear p3 hne hKl hu hK hD
  go_enter func121,ntmps121
  go_upto_region 1 with fail
  rw[<-hV,<-hA];clear hV hA
  go_upto_region 5 with(go_at_call 195;refine qx (PL _ HB) λw2 hb1=>?_)
  obtain⟨HD,H2⟩:=eN (HD0 w2) hb1;have a2:=a2 w2 hb1;exact rh
structure Qn where
 w:ay
 u:ay
 a:Int
 b:Int
 now:Int
def Qn.v (q:Qn):Value:=.agg #[C q.w,C q.u,I J q.a,I J q.b,I J q.now]
def nF (s:St)(q:Qn):Int:=if(gD q.w&&gD q.u)=z then 1 else if q.now<s.now∨1099511627776<=q.now then 130 else 0
def gH (s:St)(q:Qn):List fm:=fq (wB [⟨max q.a s.fb,min q.b 1099511627776⟩] (fq (kP s.sb q.w q.u)))
theorem Ro (s)(v)(b:Nat)(q:Qn)(w)(h:iW w b v s)(hw:q.w.size<=1000000)(hu:q.u.size<=1000000):
 aai 119 #[q.v,v] w (I J (nF s q)):=by
 obtain⟨vo,vu,vs,vt,ul,rfl,hr⟩:=h;unfold jd Qn.v;obtain⟨Ao,co,rfl,_,_⟩:=hr.ho.form;obtain⟨As,cs,rfl,_,_⟩:=hr.hs.form;obtain⟨At,ct,rfl,_,_⟩:=hr.ht.form;obtain⟨Au,cu,rfl,_,_⟩:=hr.hu.form;obtain⟨PR,HE⟩:=eN (λW=>tV q.w q.u W om om) (show nF s q=if(gD q.w&&gD q.u)=z then 1 else if q.now<s.now∨1099511627776<=q.now then 130 else 0 from rfl);obtain⟨A,V,hA,hV,BA,BX,HB,HAw,SV⟩:=lj w #[C q.w,C q.u,I J q.a,I J q.b,I J q.now] 119 #[I J s.now,I J s.fb,Z Ao s.op.length co,Z Au ul.length cu,Z As s.sb.length cs,Z At s.tb.length ct] 131;obtain⟨a0,a1,a2,a3,a4⟩:=wY BA;obtain⟨x0,x1,x2,x3,x4,x5⟩:=jg BX;clear hr;have hb0:=br V;cases hnm:(gD q.w&&gD q.u) with
 | false=>
  rw[hnm] at PR HE;rw[aA D] at HE;clear hnm;exact nN
 | true=>
  rw[hnm] at PR HE;rw[az dc] at HE;clear hnm;by_cases h1:q.now<s.now
  ·rw[aA (aG h1)] at HE;exact nN
  ·by_cases h2:1099511627776<=q.now;rw[aA (aI h2)] at HE;have h3:q.now≥1099511627776:=h2;rotate_left;rw[az (λhh=>hh.elim h1 h2)] at HE;have h3:¬q.now≥1099511627776:=h2;rotate_left
   all_goals
    exact nN
theorem JR (s)(v)(b:Nat)(q:Qn)(w)(h:iW w b v s)(hn:s.sb.length<=100):
 Calls prog 122 #[q.v,v] w λe w'=>∃ v',e= .returned v'/\Rw fm.cs 110 2 w' w.heap.size v' (gH s q)/\Bl w w':=by
 obtain⟨vo,vu,vs,vt,ul,rfl,hr⟩:=h;unfold jd Qn.v gH;have PE:=H (λW (hb:Bl w W)=>DJ s.sb q.w q.u vs b W (hr.hs.bl hb) om);unfold mj at PE;obtain⟨Ao,co,rfl,_,_⟩:=hr.ho.form;obtain⟨As,cs,rfl,_,_⟩:=hr.hs.form;obtain⟨At,ct,rfl,_,_⟩:=hr.ht.form;obtain⟨Au,cu,rfl,_,_⟩:=hr.hu.form;have MA:=H (λW=>yg ⟨q.a,q.b⟩ ⟨s.fb,1099511627776⟩ W);unfold fm.v at MA;have hPl:(fq (kP s.sb q.w q.u)).length<=100:=by have h1:=lG (kP s.sb q.w q.u);have h2:=qv s.sb q.w q.u;omega
 obtain⟨P,hP⟩:=fe (fq (kP s.sb q.w q.u));rw[<-hP] at PE hPl ⊢;obtain⟨za,hza⟩:=fe (max q.a s.fb);obtain⟨zb,hzb⟩:=fe (min q.b 1099511627776);simp only at MA;rw[<-hza,<-hzb] at MA ⊢;have SM:=H (λ(W:World) (g:Nat) (vy:Value) (hg:Bk W g 110 #[I J za,I J zb]) (hy:Rw fm.cs 110 2 W 0 vy P)=>J2 [⟨za,zb⟩] P (Z (G ⟨g,0,E⟩) 1 1) vy 0 0 W (Nw (x:=(⟨za,zb⟩:fm)) hg D D (aD _)) hy sm hPl);obtain⟨A,V,hA,hV,BA,BX,HB,HAw,SV⟩:=lj w #[C q.w,C q.u,I J q.a,I J q.b,I J q.now] 119 #[I J s.now,I J s.fb,Z Ao s.op.length co,Z Au ul.length cu,Z As s.sb.length cs,Z At s.tb.length ct] 131;obtain⟨a0,a1,a2,a3,a4⟩:=wY BA;obtain⟨x0,x1,x2,x3,x4,x5⟩:=jg BX;clear hr hP hza hzb;have hb0:=br V
 go_enter func122,ntmps122
 go_upto_region 1 with fail
 rw[<-hV,<-hA];clear hV hA
 go_upto_region 2 with(go_at_call 192;refine qx (MA _) λw1 hb1=>?_)
 obtain⟨V2,G2,hV2,hG2,BG2,LV2⟩:=iC w1 #[I J za,I J zb] 110;rw[<-hV2,<-hG2];clear hV2;replace hG2:=H hG2;obtain⟨g20,g21⟩:=ni BG2;have HB2:=H (hb1.ca LV2);have q0:=λW (h:Bl V2 W)=>a0 W (HB2.ca h);have q1:=λW (h:Bl V2 W)=>a1 W (HB2.ca h);have q4:=λW (h:Bl V2 W)=>x4 W (HB2.ca h);have hb2:=br V2
 go_region_held3 (λw'=>Bl V2 w') (exact n7) (first | (go_at_call 201;refine aaj (PE _ (HB.ca (HB2.ca fU))) λv5 w5 hr5 hb5=>?_) | (go_at_call 200;refine aaj (SM _ _ _ (by first | exact eL _ _ | exact hb5.bl (Bl.bl Bl.eH.dr (eL _ _))) (by first | exact hr5.iD | exact Rw.bl hr5.iD (gl _ _))) λv6 w6 hr6 hb6=>?_))
 all_goals
  have H6:Bl V2 w6:=ms
  go_wp2_with fail
  go_ret;exact⟨_,D,fa hr6 (by have e1:=(HB.ca HB2).size;have e2:=hb5.size;simp at e2 ⊢;omega),HB.ca (HB2.ca H6)⟩
def aaE (s:St)(q:Qn)(w:World)(e:Ending)(w':World):Prop:=
 (nF s q≠0/\e= .returned (.tuple #[aw,I J (nF s q)])/\Bl w w')∨
 (nF s q=0/\∃ v' O,e= .returned (.tuple #[v',av])/\O.Perm (SS s q.u q.now)/\Rw eP.cs 112 4 w' w.heap.size v' (jT O (fq (gH s q)))/\Bl w w')
theorem Q6 (s)(u)(t:Int)(hn:pY 60 s):(SS s u t).length<=120:=by
 unfold SS;rw[aU];have h1:=IE u t s.op;have h2:=hn.no;have h3:(kR s.us u).length<=60:=by
  have:∀ l:List il,(∀ y∈l,y.l.length<=60)->(kR l u).length<=60:=by
   intro l
   induction l with
   | nil=>intro _;simp[kR]
   | cons y r ih=>
    intro h;unfold kR
    split
    ·exact h y sm
    ·exact ih λau hz=>h au (by simp[hz])
  exact this _ hn.nl
 omega
theorem zD (s)(v)(b:Nat)(q:Qn)(w)(h:iW w b v s)(hn:pY 60 s)(ho:Ord il.u bf s.us)(hw:q.w.size<=1000000)(hu:q.u.size<=1000000):
 Calls prog 84 #[v,q.v] w (aaE s q w):=by
 obtain⟨WY,TI,ST⟩:=gi (λW (hb:Bl w W)=>Ro s v b q W (h.bl hb) hw hu) (λW (hb:Bl w W)=>JR s v b q W (h.bl hb) iM) (λW (hb:Bl w W)=>JW s v b q.u q.now W (h.bl hb) ⟨aaQ,by have:=hn.nu;omega,iM,aaR,λy hy=>gw⟩ ho);have CU:=H (λ(W:World) (O:List eP) (vl vb:Value) (hl:Rw eP.cs 112 4 W 0 vl O) (hO:O.Perm (SS s q.u q.now)) (hb:Rw fm.cs 110 2 W 0 vb (gH s q))=>Uj O (gH s q) vl vb 0 0 W hl hb (by have h1:=Q6 s q.u q.now hn;have h2:=hO.length_eq;omega) (by
  unfold gH;have h1:=lG (wB [⟨max q.a s.fb,min q.b 1099511627776⟩] (fq (kP s.sb q.w q.u)));have h2:=lG (kP s.sb q.w q.u);have h3:=qv s.sb q.w q.u;have h4:=hn.ns;have h5:(wB [⟨max q.a s.fb,min q.b 1099511627776⟩] (fq (kP s.sb q.w q.u))).length=(fq (kP s.sb q.w q.u)).length:=by simp[wB]
  omega))
 obtain⟨vo,vu,vs,vt,ul,rfl,hr⟩:=h;obtain⟨Ao,co,rfl,_,_⟩:=hr.ho.form;obtain⟨As,cs,rfl,_,_⟩:=hr.hs.form;obtain⟨At,ct,rfl,_,_⟩:=hr.ht.form;obtain⟨Au,cu,rfl,_,_⟩:=hr.hu.form;unfold jd Qn.v at WY TI;unfold jd at ST;unfold jd Qn.v;obtain⟨X,V,hX,hV,BX,BA,HB,HXw,SV⟩:=lj w #[I J s.now,I J s.fb,Z Ao s.op.length co,Z Au ul.length cu,Z As s.sb.length cs,Z At s.tb.length ct] 131 #[C q.w,C q.u,I J q.a,I J q.b,I J q.now] 119;obtain⟨x0,x1,x2,x3,x4,x5⟩:=jg BX;obtain⟨a0,a1,a2,a3,a4⟩:=wY BA;clear hr hn;have hb0:=br V;by_cases hz:nF s q=0
 ·rw[hz] at WY
  go_enter func84,ntmps84
  go_upto_region 1 with fail
  rw[<-hV,<-hX];clear hV hX
  go_upto_region 4 with(go_at_call 119;refine qx (WY _ HB) λw1 hb1=>?_)
  go_region_held3 (λw'=>Bl V w') (exact n7) (first | (go_at_call 121;refine(ST _ (HB.ca fU)).mono ?_;rintro e w5 ⟨v5,O,rfl,hr5,hO,hb5⟩) | (go_at_call 122;refine aaj (TI _ (HB.ca fU)) λv6 w6 hr6 hb6=>?_) | (go_at_call 120;refine aaj (CU _ O _ _ (by first | exact Rw.iD (Rw.bl hr5 ms) | exact Rw.iD hr5) hO (by first | exact Rw.iD hr6 | exact Rw.iD (Rw.bl hr6 ms))) λv7 w7 hr7 hb7=>?_))
  have H7:Bl V w7:=ms
  go_wp2_with fail
  go_ret2
  exact aI ⟨hz,_,O,D,hO,fa hr7 (by have e1:=hb5.size;have e2:=hb6.size;have e3:=hb1.size;have e4:=HB.size;exact aH e4 (aH e3 (aH e1 e2))),HB.ca H7⟩
 ·obtain⟨y,hy⟩:∃ y,y=nF s q:=⟨_,D⟩;have i1:(y != 0)=Q:=by rw[hy];simpa using hz
  rw[<-hy] at WY;have HYy:=H hy;clear hy
  go_enter func84,ntmps84
  go_upto_region 1 with fail
  rw[<-hV,<-hX];clear hV hX
  go_wp2_with (go_at_call 119;refine qx (WY _ HB) λw1 hb1=>?_)
  go_ret2
  exact aG ⟨hz,by rw[<-HYy.out];rfl,HB.ca hb1⟩
def aaG (s:St)(w0 u:ay)(now:Int)(w:World)(e:Ending)(w':World):Prop:=
 (nF s ⟨w0,u,0,1099511627776,now⟩≠0/\e= .returned (.tuple #[av,.bool z,I J (nF s ⟨w0,u,0,1099511627776,now⟩)])/\Bl w w')∨
 (nF s ⟨w0,u,0,1099511627776,now⟩=0/\∃ O,O.Perm (SS s u now)/\e= .returned (.tuple #[I J (mn (jT O (fq (gH s ⟨w0,u,0,1099511627776,now⟩)))).1,.bool (mn (jT O (fq (gH s ⟨w0,u,0,1099511627776,now⟩)))).2,av])/\Bl w w')
theorem Ln (s)(v)(b:Nat)(w0 u:ay)(now:Int)(w)(h:iW w b v s)(hn:pY 60 s)(ho:Ord il.u bf s.us)(hw:w0.size<=1000000)(hu:u.size<=1000000):
 Calls prog 87 #[v,mj w0 u,I J now] w (aaG s w0 u now w):=by
 obtain⟨RA,LA⟩:=eN (λW (hb:Bl w W)=>zD s v b ⟨w0,u,0,1099511627776,now⟩ W (h.bl hb) hn ho hw hu) (λ(W:World) (L:List eP) (vl:Value) (hl:Rw eP.cs 112 4 W 0 vl L)=>O7 L vl 0 W hl);obtain⟨vo,vu,vs,vt,ul,rfl,hr⟩:=h;obtain⟨Ao,co,rfl,_,_⟩:=hr.ho.form;obtain⟨As,cs,rfl,_,_⟩:=hr.hs.form;obtain⟨At,ct,rfl,_,_⟩:=hr.ht.form;obtain⟨Au,cu,rfl,_,_⟩:=hr.hu.form;unfold jd Qn.v at RA;unfold jd mj;obtain⟨X,V,hX,hV,BX,BA,HB,HXw,SV⟩:=lj w #[I J s.now,I J s.fb,Z Ao s.op.length co,Z Au ul.length cu,Z As s.sb.length cs,Z At s.tb.length ct] 131 #[C w0,C u] 117;obtain⟨x0,x1,x2,x3,x4,x5⟩:=jg BX;obtain⟨a0,a1⟩:=ni BA;clear hr hn;have hb0:=br V
 go_enter func87,ntmps87
 go_upto_region 1 with fail
 rw[<-hV,<-hX];clear hV hX
 go_upto_region 2 with(go_at_call 84;refine(RA _ HB).mono ?_;rintro e w1 hR;rcases hR with⟨hz,rfl,hb1⟩ | ⟨hz,v1,O,rfl,hO,hr1,hb1⟩)
 ·obtain⟨y,hy⟩:∃ y,y=nF s ⟨w0,u,0,1099511627776,now⟩:=⟨_,D⟩;have i1:(y != 0)=Q:=by rw[hy];simpa using hz
  rw[<-hy];have HYy:=H hy;clear hy
  go_wp2_with fail
  go_ret3
  exact aG ⟨hz,by rw[<-HYy.out];rfl,HB.ca hb1⟩
 ·go_wp2_with (go_at_call 130;refine qx (LA _ _ _ hr1.iD) λw2 hb2=>?_)
  go_ret3
  exact aI ⟨hz,O,hO,D,(HB.ca hb1).ca hb2⟩
end Tp
namespace SgM
open Go Go.RowKit CrcM FrM Go.Lib Go.Sort
open Ds.DkM (bf gj ij gQ mY iZ)
open Ds (fP)
theorem Ei (x y):ltOf Cg x y=lt x y:=by
 unfold ltOf Cg;by_cases h1:lt x y=Q
 ·rw[aA h1,h1];rfl
 ·rw[az h1];have h1':lt x y=z:=by simpa using h1
  rw[h1'];by_cases h2:lt y x=Q
  ·rw[aA h2];rfl
  ·rw[az h2];rfl
theorem VO:SWO (ltOf Cg) where
 irrefl x:=by rw[Ei];exact Bu x
 trans x y au h1 h2:=by rw[Ei] at*;exact lt_trans h1 h2
 ntrans x y au h1 h2:=by rw[Ei,zQ] at*;omega
theorem QB (fo off size:Nat)(w):CmpLays prog 153 #[] RY 2 Cg fo off size w:=λ_ _ _ _ x y=>Ur x y _
theorem Li{base:Nat}{L:List Sg}(h:w.ownsRow base 133 2 (Z (G ⟨g,0,E⟩) L.length cap) L.length (sO L)):HoldsK RY 2 w g 0 L.toArray:=by
 intro j hj;rw[EO] at hj ⊢;have hj':j<(sO L).length:=by simpa using hj
 rcases h.2 with⟨h1,_⟩ | ⟨g',cap',cur,h1,hb,hg,h2,h3,h4,h5⟩
 ·cases h1
 ·injection h1 with h1 _ h1'
  injection h1 with h1
  injection h1 with h1 _ _
  subst h1;rw[aZ];refine⟨?_,frozen_of_row _ _ _ _ _ hg⟩;rw[ab1 _ _ _ _ _ _ hg,ab0 _ j hj];have:=aP (λl=>l[j]?) h5;simp only[bE] at this;rw[aA (by rw[<-kH];exact hj'),aW hj'] at this;simpa using this
theorem NY (F cur:Array Value)(h:F.size<=cur.size):(putCells id 0 F cur).toList.take F.size=F.toList:=by
 apply dh;intro j;rw[bE];by_cases hj:j<F.size
 ·rw[aA hj];have hc:j<cur.size:=om;simp[putCells,hj,hc]
 ·rw[az hj,b6 gZ]
theorem Ni {L:List Sg}{base:Nat}{v}(h:w.ownsRow base 133 2 v L.length (sO L))(hl:L.length<=1000):
 Calls prog 152 #[v,.func (.func 153) #[] #[]] w λe w'=>
  e= .returned (.tuple #[])/\w'.ownsRow base 133 2 v L.length (sO (jQ L))/\w.grownBy w' v.ownBlock:=by
 have h0:=h;rcases h.2 with⟨rfl,hn⟩ | ⟨g,cap,cur,rfl,hb,hg,h2,h3,h4,h5⟩
 ·have hL:L=[]:=aa6.1 hn;subst hL;refine QS (AnyF.slices_SortFunc_none {Tryz.sortf with} E 0 _ w) ?_;have e0:jQ []=[]:=by unfold jQ;simp
  rw[e0];exact⟨D,h0,⟨D,D,D,aB _,λ_ _ _=>rfl⟩⟩
 ·have hH:=Li h0;have hlt:g<w.heap.size:=(aa2.1 hg).1;have eg:∀ args w,(callFunc 153 args).run prog w= .ok (.enter 153 args) w:=enters_of func153 kr D;have hcon:=AnyQ.slices_SortFunc_total Tryz.sortf 2 isAgg133 sizeOf133 RY (λ_=>rfl) Ip Cg VO 153 #[] g 0 cap L.toArray w eg (QB g 0 _ w) hH hlt eC
   (λx y h1 h2=>by
    rw[Ei] at h1 h2;exact Classical.byContradiction λhne=>by rcases yi hne with h | h<;>simp[h] at h1 h2)
  refine hcon.mono ?_;rintro e w' ⟨rfl,n,os,rfl⟩;have hs:(L.toArray.toList.mergeSort λx y=>!(ltOf Cg) y x)=jQ L:=by
   unfold jQ
   congr 1
   funext x y
   rw[Ei]
  rw[hs];have hblk:(sortWorldK RY 2 w g 0 n (jQ L).toArray os).heap[g]?=G (.cells (putCells id 0 (sO (jQ L)).toArray cur) 133 (0,0)):=by
   unfold sortWorldK putRowK;rw[EO];exact qL
  refine⟨D,⟨by rw[kH,pA],.inr ⟨g,cap,_,D,hb,hblk,h2,h3,by simp[putCells,h4],?_⟩⟩,?_⟩
  ·have:=NY (sO (jQ L)).toArray cur (by simp[kH,pA];omega);simpa[kH,pA] using this
  ·refine⟨D,D,D,?_,?_⟩
   ·unfold sortWorldK grow putRowK putRow mapBlock;simp
   ·intro k hk hne;have hne':g≠k:=λe=>hne (by rw[<-e];rfl);unfold sortWorldK putRowK grow putRow mapBlock;simp only[];rw[dU iG,di,az hne'];rfl
theorem vH{base:Nat}{v:Value}{cur:Array Value}{e:TypeId}(hb:base<=g)(hg:w.heap[g]?=G (.cells cur e (0,0)))(hn:n<=cap)(hc:cap<=maxLen)(size:Nat)(hs:cur.size=cap*size)(hv:v= Z (G ⟨g,0,E⟩) n cap)(hx:xs.length=n*size)(ht:cur.toList.take (n*size)=xs):
 w.ownsRow base e size v n xs:=⟨hx,.inr ⟨g,cap,cur,hv,hb,hg,hn,hc,hs,ht⟩⟩
theorem Cf (a:Option Addr)(cap:Nat)(w:World):
 Calls prog 154 #[Z a 0 cap] w λe w'=>e= .returned (Z a 0 cap)/\w=w':=by
 go_enter func154,ntmps154
 go_wp2
 go_ret;exact⟨D,D⟩
theorem Fj {L:List Sg}{base:Nat}{v}(h:w.ownsRow base 133 2 v L.length (sO (jQ L)))(hl:L.length<=1000):
 Calls prog 154 #[v] w λe w'=>
  ∃ v',e= .returned v'/\w'.ownsRow base 133 2 v' (uq L).length (sO (uq L))/\w.grownBy w' v.ownBlock:=by
 rcases h.2 with⟨rfl,hn⟩ | ⟨g,cap,cur,rfl,hb,hg,h2,h3,h4,h5⟩
 ·have hL:L=[]:=aa6.1 hn;subst hL;refine QS (Cf E 0 w) ?_;exact⟨_,D,ab6 _ _ _ _,⟨D,D,D,aB _,λ_ _ _=>rfl⟩⟩
 ·have h0:yR w g (jQ L).toArray.toList (cur.toList.drop (L.length*2)):=by
   unfold yR;rw[List.toList_toArray,<-h5,bA,Array.toArray_toList];exact hg
  have hc:=Fk (cap:=cap) h0 (by simp[pA];omega) (by simp[pA];omega) (by unfold maxLen at h3;omega);have hsz:(jQ L).toArray.size=L.length:=by simp[pA]
  have hu:compactUpTo (jQ L).toArray (jQ L).toArray.size=uq L:=MJ L;rw[hu,hsz] at hc;refine hc.mono ?_;rintro e w' ⟨rfl,R',hr,hrw,hgr⟩;have hul:(uq L).length<=L.length:=by
   rw[<-hu];unfold compactUpTo;rw[bg,<-hsz];exact aH (bp _ _) sm
  have hcl:cur.size=cap*2:=h4;refine⟨_,D,vH hb hrw om h3 2 ?_ rfl (kH _) ?_,hgr⟩
  ·have hcl3:cur.toList.length=cap*2:=by rw[Array.length_toList];exact hcl
   rw[bm] at hr;rw[dN,aU,kH];omega
  ·rw[<-kH];simp
def tK (L:List (List UInt8)):List Value:=L.map encStr
def leB (x y:List UInt8):Bool:=decide (x<=y)
theorem J1 {L:List (List UInt8)}{base:Nat}{v}(h:w.ownsRow base 9 1 v L.length (tK L))(hl:L.length<=1000):
 Calls prog 149 #[v] w λe w'=>
  e= .returned (.tuple #[])/\w'.ownsRow base 9 1 v L.length (tK (L.mergeSort leB))/\w.grownBy w' v.ownBlock:=by
 have h0:=h;rcases h.2 with⟨rfl,hn⟩ | ⟨g,cap,cur,rfl,hb,hg,h2,h3,h4,h5⟩
 ·have hL:L=[]:=aa6.1 hn;subst hL;refine QS (Tryz.slices_Sort_string_none E 0 w) ?_;rw[show([]:List (List UInt8)).mergeSort leB=[] by simp];exact⟨D,h0,⟨D,D,D,aB _,λ_ _ _=>rfl⟩⟩
 ·have hlt:g<w.heap.size:=(aa2.1 hg).1;have hH:Holds encStr w g 0 L.toArray:=by
   intro j hj;have hj':j<L.length:=by simpa using hj
   rw[aZ];refine⟨?_,frozen_of_row _ _ _ _ _ hg⟩;rw[ab1 _ _ _ _ _ _ hg,ab0 _ j hj];have:=aP (λl=>l[j]?) h5;simp only[bE] at this;rw[aA om] at this;have h6:(tK L)[j]?=G (encStr L[j]):=by unfold tK;simp[hj']
   rw[h6] at this;simpa using this
  refine(Tryz.slices_Sort_string g 0 cap L w hH hlt om).mono ?_;rintro e w' ⟨rfl,n,os,rfl⟩;have hms:(L.mergeSort λx y=>decide (x<=y))=L.mergeSort leB:=rfl;rw[hms];have hblk:(grow (putRow encStr (Go.Sort.ahead w n) g 0 (L.mergeSort leB).toArray) os).heap[g]?=G (.cells (putCells encStr 0 (L.mergeSort leB).toArray cur) 9 (0,0)):=by
   exact qL
  refine⟨D,vH hb hblk h2 h3 1 (by simp[putCells,h4]) D ?_ ?_,?_⟩
  ·unfold tK;simp
  ·apply dh;intro j;rw[bE];by_cases hj:j<L.length*1
   ·rw[aA hj];have hc:j<cur.size:=om;have hj':j<L.length:=om;simp[putCells,hc,hj',tK]
   ·rw[az hj,b6 (by simp[tK];omega)]
  ·refine⟨D,D,D,?_,?_⟩
   ·unfold grow putRow mapBlock;simp
   ·intro k hk hne;have hne':g≠k:=λe=>hne (by rw[<-e];rfl);unfold grow putRow mapBlock;simp only[];rw[dU iG,di,az hne'];rfl
