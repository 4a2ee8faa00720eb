/- Lemmas for AfterglowSecret: what functions of the program return; no condition. -/
import Derived.Test.YtkpdknkidnfgiaaGreatDoorJO
import Derived.Test.YtkpdknkidnfgiaaGreatDoorJH
set_option maxHeartbeats 0
set_option maxRecDepth 100000
set_option linter.unusedVariables false
open Go.Value renaming int->I,string->C,slice->Z
open Go.IntKind renaming i64->J,u8->U
open Bool renaming true->Q,false->z
open Go.Lib renaming hid->H
open Go.Proofs.Tryz
namespace Go.Proofs.YtkpdknkidnfgiaaGreatDoor
theorem abF{p:Prop}(h:p:=by
 have HF:=H (show gD s=z by unfold gD jD;rw[HS.out (by rw[HE.out];simp;omega)];rfl);clear hx;exact fu):p:=h
theorem jq{p:Prop}(h:p:=by
 go_upto_region 1 with fail
 rw[<-hV,<-hX];clear hV hX
 go_wp2_with fail
 go_ret;exact⟨by rw[HF.out];rfl,HB⟩):p:=h
theorem ru{p:Prop}(h:p:=by
 go_enter func38,ntmps38
 go_upto_region 1 with fail
 rw[<-hV,<-hX];clear hV hX
 go_wp2_with ((go_at_call 18;refine(NR _).mono ?_;rintro e w5 ⟨rfl,rfl⟩))
 go_ret;exact⟨by rw[HF.out];rfl,HB⟩):p:=h
theorem km{p:Prop}(h:p:=by
 go_enter func20,ntmps20
 go_upto_region 1 with fail
 rw[<-hV,<-hX];clear hV hX
 go_wp2_with ((go_at_call 38;refine(SC _).mono ?_;rintro e w5 ⟨rfl,hb5⟩;have d5:=x5 w5 hb5))
 go_ret;exact⟨by rw[HF.out];rfl,HB.ca hb5⟩):p:=h
theorem og{p:Prop}(h:p:=by
 go_enter func20,ntmps20
 go_upto_region 1 with fail
 rw[<-hV,<-hX];clear hV hX
 go_wp2_with ((go_at_call 18;with_reducible refine(CU.out _).mono ?_;rintro e w5 ⟨rfl,rfl⟩))
 go_ret;exact⟨by rw[HF.out];rfl,HB⟩):p:=h
theorem nU{p:Prop}(h:p:=by
 go_enter func20,ntmps20
 go_upto_region 1 with fail
 rw[<-hV,<-hX];clear hV hX
 go_wp2_with (first | (go_at_call 18;with_reducible refine(CU.out _).mono ?_;rintro e w5 ⟨rfl,rfl⟩) | (go_at_call 18;with_reducible refine(CO.out _).mono ?_;rintro e w5 ⟨rfl,rfl⟩))
 go_ret;exact⟨by rw[HF.out];rfl,HB⟩):p:=h
theorem aaW{p:Prop}(h:p:=by
 go_enter func20,ntmps20
 exact jq):p:=h
namespace Tp
open Go Go.RowKit Go.Lib CrcM FrM
open Ds (qB jD)
theorem fC (s:ay)(w:World)(hs:s.size<=9223372036854775807):
 Calls prog 18 #[C s] w λe w'=>e= .returned (.bool (gD s))/\w=w':=by
 by_cases h1:1<=s.size
 ·by_cases h2:s.size<=12
  ·have e1:¬(s.size:Int)<1:=om;have e2:¬(s.size:Int)>12:=om
   go_enter func18,ntmps18
   go_wp2_with fail
   go_loop [3] (λi=>∃ k:Nat,k<=s.size/\(s.data.toList.take k).all qB=Q/\i= I J k) (λi=>s.size - (intOf i).toNat)
   case atStart=>exact⟨0,aD _,D,D⟩
   case round=>
    obtain⟨k,hk,ha,rfl⟩:=hrel;have HA:=H ha;clear ha;by_cases hlt:k<s.size
    ·obtain⟨HS,HN,HE⟩:=gi (λ(h:qB s[k]=z)=>wS hlt h) (λ(h:qB s[k]=Q)=>uA hlt HA h) (show qB s[k]=((decide (97<=s[k].toNat)&&decide (s[k].toNat<=122))||(decide (48<=s[k].toNat)&&decide (s[k].toNat<=57))) from rfl)
     go_upto_region 7 with fail
     obtain⟨x,hx⟩:=fe (s[k].toNat);rw[<-hx] at HE ⊢;by_cases h3:97<=x
     ·by_cases h4:x<=122
      ·have f0:(97:Int)<=(x:Int):=om;have g0:decide ((97:Int)<=(x:Int))=Q:=aF f0;have f1:(x:Int)<=122:=om;have g1:decide ((x:Int)<=122)=Q:=aF f1;have HN2:=H (HN iK);clear hx
       go_wp2
       exact⟨⟨k+1,om,HN2,eB⟩,eE⟩
      ·have f0:(97:Int)<=(x:Int):=om;have g0:decide ((97:Int)<=(x:Int))=Q:=aF f0;have f1:¬(x:Int)<=122:=om;have g1:decide ((x:Int)<=122)=z:=aC f1;have f2:(48:Int)<=(x:Int):=om;have g2:decide ((48:Int)<=(x:Int))=Q:=aF f2;have f3:¬(x:Int)<=57:=om;have g3:decide ((x:Int)<=57)=z:=aC f3;exact abF
     ·by_cases h5:48<=x
      ·by_cases h6:x<=57
       all_goals
        have f0:¬(97:Int)<=(x:Int):=om;have g0:decide ((97:Int)<=(x:Int))=z:=aC f0;have f1:(48:Int)<=(x:Int):=om;have g1:decide ((48:Int)<=(x:Int))=Q:=aF f1
       have f2:(x:Int)<=57:=om;have g2:decide ((x:Int)<=57)=Q:=aF f2;have HN2:=H (HN iK);rotate_left;have f2:¬(x:Int)<=57:=om;have g2:decide ((x:Int)<=57)=z:=aC f2;have HF:=H (show gD s=z by unfold gD jD;rw[HS.out iK];rfl);rotate_left
       all_goals
        clear hx
        go_wp2
       ·exact⟨⟨k+1,om,HN2,eB⟩,eE⟩
       ·go_ret;exact⟨fv,D⟩
      ·have f0:¬(97:Int)<=(x:Int):=om;have g0:decide ((97:Int)<=(x:Int))=z:=aC f0;have f1:¬(48:Int)<=(x:Int):=om;have g1:decide ((48:Int)<=(x:Int))=z:=aC f1;exact abF
    ·obtain rfl:k=s.size:=om;have HF:=H (show gD s=Q by unfold gD jD;rw[wT HA.out,aF h1,aF h2];rfl);exact fu
  ·have HF:=H (show gD s=z by unfold gD;rw[aC h2];simp);have e2:(s.size:Int)>12:=om;have e1:¬(s.size:Int)<1:=om
   go_enter func18,ntmps18
   go_wp2_with fail
   go_ret;exact⟨fv,D⟩
 ·have HF:=H (show gD s=z by unfold gD;rw[aC h1];simp);have e1:(s.size:Int)<1:=om
  go_enter func18,ntmps18
  go_wp2_with fail
  go_ret;exact⟨fv,D⟩
theorem Sk {o:ay}:o.size=0↔o.toList=[]:=by
 rw[ByteArray.toList_eq,<-aa6];rfl
theorem nJ (e:Ev)(w:World)(hu:e.user.size<=9223372036854775807):
 aai 38 #[e.v] w (.bool (iP e.n 1 999&&gD e.user&&decide (e.other.size=0))):=by
 obtain⟨k,t,u,o,n,st⟩:=e;have NR:=λW=>fC u W hu;obtain⟨R,hR,HRR⟩:=nh ((iP n 1 999&&gD u&&decide (o.size=0)));unfold Ev.v Ev.cells;simp only;rw[<-hR];clear hR hu;obtain⟨X,V,hX,hV,BX,HB,HXw,SV⟩:=gC w #[I J k,I J t,C u,C o,I J n,I J st] 26;obtain⟨x0,x1,x2,x3,x4,x5⟩:=jg BX;have hb0:=br V;by_cases h1:1<=n
 ·by_cases h2:n<=999
  ·cases hn:gD u
   ·have f0:(1:Int)<=n:=om;have f1:n<=999:=om;rw[hn] at NR;replace NR:=H NR;have HF:=H (show R=z by rw[HRR.out];rw[hn];simp);exact ru
   ·rw[hn] at NR;replace NR:=H NR;by_cases h3:o.size=0
    all_goals
     have f0:(1:Int)<=n:=om;have f1:n<=999:=om
    have n0:=Sk.1 h3;have n1:(o.toList==[])=Q:=by rw[n0];rfl
    have n3:o.toList.isEmpty=Q:=by rw[n0];rfl
    have HF:=H (show R=Q by rw[HRR.out];rw[hn,aF h3];unfold iP;rw[aF h1,aF h2];rfl);rotate_left;have n0:o.toList≠[]:=λh=>h3 (Sk.2 h);have n1:(o.toList==[])=z:=by rw[aX];exact n0
    have n3:o.toList.isEmpty=z:=by cases h:o.toList with | nil=>exact absurd h n0 | cons=>rfl
    have HF:=H (show R=z by rw[HRR.out];rw[aC h3];simp);rotate_left
    all_goals
     exact ru
  ·have f0:(1:Int)<=n:=om;have f1:¬n<=999:=om;replace NR:=H NR;have HF:=H (show R=z by rw[HRR.out];unfold iP;rw[aC h2];simp)
   go_enter func38,ntmps38
   exact jq
 ·have f0:¬(1:Int)<=n:=om;replace NR:=H NR;have HF:=H (show R=z by rw[HRR.out];unfold iP;rw[aC h1];simp)
  go_enter func38,ntmps38
  exact jq
section
variable (k t:Int)(u o:ay)(n st:Int)
theorem Cb (hk:k=1∨k=2):fL ⟨k,t,u,o,n,st⟩=(iP t 0 1099511627775&&iP st 1 4&&(iP n 1 999&&gD u&&decide (o.size=0))):=by
 unfold fL;rw[aA hk];simp[Bool.and_assoc]
theorem Qh:fL ⟨3,t,u,o,n,st⟩=(iP t 0 1099511627775&&(iP n 1 999&&gD u&&decide (o.size=0))&&decide (st=0)):=by
 unfold fL;rw[az sm,aA D];simp[Bool.and_assoc]
theorem yw (hk:k=4∨k=5):fL ⟨k,t,u,o,n,st⟩=(iP t 0 1099511627775&&(gD u&&gD o)&&decide (n=0/\st=0)):=by
 unfold fL;rw[az eJ,az eJ,az eJ,aA hk]
theorem Ae:fL ⟨6,t,u,o,n,st⟩=(iP t 0 1099511627775&&iP n 0 1099511627775&&decide (u.size=0/\o.size=0/\st=0)):=by
 unfold fL;rw[az sm,az sm,az sm,az sm,aA D]
theorem Fa:fL ⟨7,t,u,o,n,st⟩=(iP t 0 1099511627775&&gD u&&decide (o.size=0/\n=0/\st=0)):=by
 unfold fL;rw[az sm,az sm,aA D]
theorem E9 (h:k<1∨7<k):fL ⟨k,t,u,o,n,st⟩=z:=by
 unfold fL;rw[az eJ,az eJ,az eJ,az eJ,az eJ]
theorem Qg (h:¬(0<=t/\t<=1099511627775)):fL ⟨k,t,u,o,n,st⟩=z:=by
 have hT:iP t 0 1099511627775=z:=by
  unfold iP;by_cases h0:0<=t
  ·rw[aC (λh1=>h ⟨h0,h1⟩)];simp
  ·rw[aC h0];rfl
 unfold fL;simp only[hT,Bool.false_and]
 repeat (first | rfl | split)
end
theorem Cc {o:ay}(h:o.size=0):(o.toList==[])=Q/\o.toList.isEmpty=Q:=by rw[Sk.1 h];exact⟨D,D⟩
theorem Hc {o:ay}(h:¬o.size=0):(o.toList==[])=z/\o.toList.isEmpty=z:=by
 have n0:o.toList≠[]:=λh'=>h (Sk.2 h');exact⟨by rw[aX];exact n0,by cases h:o.toList with | nil=>exact absurd h n0 | cons=>rfl⟩
theorem Sp (k t:Int)(u o:ay)(n st:Int)(w:World)(hu:u.size<=9223372036854775807)(ho:o.size<=9223372036854775807)(h:¬(0<=t/\t<=1099511627775)):
 aai 20 #[.agg #[I J k,I J t,C u,C o,I J n,I J st]] w (.bool (fL ⟨k,t,u,o,n,st⟩)):=by
 obtain⟨NU,NO⟩:=eN (λW=>fC u W hu) (λW=>fC o W ho);have SS:=λW=>nJ ⟨k,t,u,o,n,st⟩ W hu;unfold Ev.v Ev.cells at SS;simp only at SS;replace SS:=H SS;obtain⟨R,hR,HRR⟩:=nh (fL ⟨k,t,u,o,n,st⟩);rw[<-hR];clear hR hu ho;obtain⟨X,V,hX,hV,BX,HB,HXw,SV⟩:=gC w #[I J k,I J t,C u,C o,I J n,I J st] 26;obtain⟨x0,x1,x2,x3,x4,x5⟩:=jg BX;have hb0:=br V;by_cases h0:t<0;have hh:=h;rotate_left;have f1:t≥1099511627776:=om;have f2:(1099511627776:Int)<=t:=f1;rotate_left
 all_goals
  have HF:=H (show R=z by rw[HRR.out,Qg _ _ _ _ _ _ h])
  go_enter func20,ntmps20
  go_upto_region 1 with fail
  rw[<-hV,<-hX];clear hV hX
  go_wp2_with fail
  go_ret;exact⟨fv,HB⟩
theorem Vc:(∀ (k t:Int) (u o:ay) (n st:Int) (w:World) (hu:u.size<=9223372036854775807) (ho:o.size<=9223372036854775807) (h0:0<=t) (h1:t<=1099511627775) (hk:k=1),aai 20 #[.agg #[I J k,I J t,C u,C o,I J n,I J st]] w (.bool (fL ⟨k,t,u,o,n,st⟩)))/\
 (∀ (k t:Int) (u o:ay) (n st:Int) (w:World) (hu:u.size<=9223372036854775807) (ho:o.size<=9223372036854775807) (h0:0<=t) (h1:t<=1099511627775) (hk:k=2),aai 20 #[.agg #[I J k,I J t,C u,C o,I J n,I J st]] w (.bool (fL ⟨k,t,u,o,n,st⟩))):=by
 refine⟨?_,?_⟩
 all_goals intro k t u o n st w hu ho h0 h1 hk
 all_goals
  obtain⟨NU,NO⟩:=eN (λW=>fC u W hu) (λW=>fC o W ho);have SS:=λW=>nJ ⟨k,t,u,o,n,st⟩ W hu;unfold Ev.v Ev.cells at SS;simp only at SS;replace SS:=H SS;have T0:¬t<0:=om;have T1:¬t≥1099511627776:=om;have T2:¬(1099511627776:Int)<=t:=om;have hT:=H (show iP t 0 1099511627775=Q by unfold iP;rw[aF h0,aF h1];rfl);obtain⟨R,hR,HRR⟩:=nh (fL ⟨k,t,u,o,n,st⟩);rw[<-hR];clear hR hu ho;obtain⟨X,V,hX,hV,BX,HB,HXw,SV⟩:=gC w #[I J k,I J t,C u,C o,I J n,I J st] 26;obtain⟨x0,x1,x2,x3,x4,x5⟩:=jg BX;have hb0:=br V;subst hk;obtain⟨S,hS,HS⟩:=nh ((iP n 1 999&&gD u&&decide (o.size=0)));have SC:=SS.out;rw[<-hS] at SC;clear hS;replace SC:=H SC;cases S
  ·have hh:=h0;have HF:=H (show R=z by rw[HRR.out,Cb _ _ _ _ _ _ dc,hT.out,<-HS.out,Bool.and_false]);exact km
  ·by_cases g1:1<=st
   ·by_cases g2:st<=4
    all_goals
     have g3:st≥1:=g1
    have HF:=H (show R=Q by rw[HRR.out,Cb _ _ _ _ _ _ dc,hT.out,<-HS.out,show iP st 1 4=Q by unfold iP;rw[aF g1,aF g2];rfl];rfl);rotate_left;have g4:decide (st<=4)=z:=aC g2;have HF:=H (show R=z by rw[HRR.out,Cb _ _ _ _ _ _ dc,hT.out,<-HS.out,show iP st 1 4=z by unfold iP;rw[aC g2];simp];rfl);rotate_left
    all_goals
     exact km
   ·have g3:¬st≥1:=g1;have HF:=H (show R=z by rw[HRR.out,Cb _ _ _ _ _ _ dc,hT.out,<-HS.out,show iP st 1 4=z by unfold iP;rw[aC g1];rfl];rfl);exact km
theorem Z4 (k t:Int)(u o:ay)(n st:Int)(w:World)(hu:u.size<=9223372036854775807)(ho:o.size<=9223372036854775807)(h0:0<=t)(h1:t<=1099511627775)(hk:k=3):
 aai 20 #[.agg #[I J k,I J t,C u,C o,I J n,I J st]] w (.bool (fL ⟨k,t,u,o,n,st⟩)):=by
 obtain⟨NU,NO⟩:=eN (λW=>fC u W hu) (λW=>fC o W ho);have SS:=λW=>nJ ⟨k,t,u,o,n,st⟩ W hu;unfold Ev.v Ev.cells at SS;simp only at SS;replace SS:=H SS;have T0:¬t<0:=om;have T1:¬t≥1099511627776:=om;have T2:¬(1099511627776:Int)<=t:=om;have hT:=H (show iP t 0 1099511627775=Q by unfold iP;rw[aF h0,aF h1];rfl);obtain⟨R,hR,HRR⟩:=nh (fL ⟨k,t,u,o,n,st⟩);rw[<-hR];clear hR hu ho;obtain⟨X,V,hX,hV,BX,HB,HXw,SV⟩:=gC w #[I J k,I J t,C u,C o,I J n,I J st] 26;obtain⟨x0,x1,x2,x3,x4,x5⟩:=jg BX;have hb0:=br V;subst hk;obtain⟨S,hS,HS⟩:=nh ((iP n 1 999&&gD u&&decide (o.size=0)));have SC:=SS.out;rw[<-hS] at SC;clear hS;replace SC:=H SC;cases S
 ·have hh:=h0;have HF:=H (show R=z by rw[HRR.out,Qh,hT.out,<-HS.out];rfl);exact km
 ·by_cases zg:st=0;subst zg;have HF:=H (show R=Q by rw[HRR.out,Qh,hT.out,<-HS.out,aF (rfl:(0:Int)=0)];rfl);rotate_left;have g:(st==0)=z:=by simp[zg]
  have HF:=H (show R=z by rw[HRR.out,Qh,hT.out,<-HS.out,aC zg];rfl);rotate_left
  all_goals
   exact km
theorem IU:(∀ (k t:Int) (u o:ay) (n st:Int) (w:World) (hu:u.size<=9223372036854775807) (ho:o.size<=9223372036854775807) (h0:0<=t) (h1:t<=1099511627775) (hk:k=4),aai 20 #[.agg #[I J k,I J t,C u,C o,I J n,I J st]] w (.bool (fL ⟨k,t,u,o,n,st⟩)))/\
 (∀ (k t:Int) (u o:ay) (n st:Int) (w:World) (hu:u.size<=9223372036854775807) (ho:o.size<=9223372036854775807) (h0:0<=t) (h1:t<=1099511627775) (hk:k=5),aai 20 #[.agg #[I J k,I J t,C u,C o,I J n,I J st]] w (.bool (fL ⟨k,t,u,o,n,st⟩)))/\
 (∀ (k t:Int) (u o:ay) (n st:Int) (w:World) (hu:u.size<=9223372036854775807) (ho:o.size<=9223372036854775807) (h0:0<=t) (h1:t<=1099511627775) (hk:k=6),aai 20 #[.agg #[I J k,I J t,C u,C o,I J n,I J st]] w (.bool (fL ⟨k,t,u,o,n,st⟩)))/\
 (∀ (k t:Int) (u o:ay) (n st:Int) (w:World) (hu:u.size<=9223372036854775807) (ho:o.size<=9223372036854775807) (h0:0<=t) (h1:t<=1099511627775) (hk:k=7),aai 20 #[.agg #[I J k,I J t,C u,C o,I J n,I J st]] w (.bool (fL ⟨k,t,u,o,n,st⟩))):=by
 refine⟨?_,?_,?_,?_⟩
 all_goals intro k t u o n st w hu ho h0 h1 hk
 have tg:Tg 0:=⟨⟩;rotate_left;have tg:Tg 1:=⟨⟩;rotate_left;have tg:Tg 2:=⟨⟩;rotate_left;have tg:Tg 3:=⟨⟩;rotate_left
 all_goals
  obtain⟨NU,NO⟩:=eN (λW=>fC u W hu) (λW=>fC o W ho);have SS:=λW=>nJ ⟨k,t,u,o,n,st⟩ W hu;unfold Ev.v Ev.cells at SS;simp only at SS;replace SS:=H SS;have T0:¬t<0:=om;have T1:¬t≥1099511627776:=om;have T2:¬(1099511627776:Int)<=t:=om;have hT:=H (show iP t 0 1099511627775=Q by unfold iP;rw[aF h0,aF h1];rfl);obtain⟨R,hR,HRR⟩:=nh (fL ⟨k,t,u,o,n,st⟩);rw[<-hR];clear hR hu ho;obtain⟨X,V,hX,hV,BX,HB,HXw,SV⟩:=gC w #[I J k,I J t,C u,C o,I J n,I J st] 26;obtain⟨x0,x1,x2,x3,x4,x5⟩:=jg BX;have hb0:=br V;subst hk
 have CU:=NU.out;have CO:=NO.out;rotate_left;have CU:=NU.out;have CO:=NO.out;rotate_left;rotate_left;have CU:=NU.out;rotate_left
 all_goals
  first
   | have _:Tg 2:=tg
     by_cases zu:u.size=0
   | cases hu:gD u
  ·first
    | have _:Tg 2:=tg
      obtain⟨u1,u2⟩:=Cc zu;by_cases zo:o.size=0
      ·obtain⟨o1,o2⟩:=Cc zo;by_cases zp:st=0
       ·subst zp;by_cases g0:0<=n
        ·by_cases g1:n<=1099511627775
         all_goals
          have g2:n≥0:=g0
         have g3:n<1099511627776:=om;have HF:=H (show R=Q by rw[HRR.out,Ae,hT.out,show iP n 0 1099511627775=Q by unfold iP;rw[aF g0,aF g1];rfl,aF ⟨zu,zo,(rfl:(0:Int)=0)⟩];rfl);rotate_left;have g4:decide (n<1099511627776)=z:=aC om;have g3:¬n<1099511627776:=om;have HF:=H (show R=z by rw[HRR.out,Ae,hT.out,show iP n 0 1099511627775=z by unfold iP;rw[aC g1];simp];rfl);rotate_left
         all_goals
          exact aaW
        ·have g2:¬n≥0:=g0;have HF:=H (show R=z by rw[HRR.out,Ae,hT.out,show iP n 0 1099511627775=z by unfold iP;rw[aC g0];rfl];rfl);exact aaW
       ·have p:(st==0)=z:=by simp[zp]
        have HF:=H (show R=z by rw[HRR.out,Ae,hT.out,aC (λh=>zp h.2.2)];simp);exact aaW
      ·obtain⟨o1,o2⟩:=Hc zo;have HF:=H (show R=z by rw[HRR.out,Ae,hT.out,aC (λh=>zo h.2.1)];simp);exact aaW
    | have _:Tg 3:=tg
      rw[hu] at CU;replace CU:=H CU;have HF:=H (show R=z by rw[HRR.out,Fa,hT.out,hu];rfl)
      go_enter func20,ntmps20
      go_upto_region 1 with fail
      rw[<-hV,<-hX];clear hV hX
      go_wp2_with (go_at_call 18;refine QS (CU _) ?_)
      go_ret;exact⟨fv,HB⟩
    | rw[hu] at CU
      replace CU:=H CU;replace CO:=H CO;have HF:=H (show R=z by rw[HRR.out,yw _ _ _ _ _ _ dc,hT.out,hu];rfl)
      go_enter func20,ntmps20
      go_upto_region 1 with fail
      rw[<-hV,<-hX];clear hV hX
      go_wp2_with (go_at_call 18;refine QS (CU _) ?_)
      go_ret;exact⟨fv,HB⟩
  ·first
    | have _:Tg 2:=tg
      obtain⟨u1,u2⟩:=Hc zu;have HF:=H (show R=z by rw[HRR.out,Ae,hT.out,aC (λh=>zu h.1)];simp)
      go_enter func20,ntmps20
      go_upto_region 1 with fail
      rw[<-hV,<-hX];clear hV hX
      go_wp2_with fail
      go_ret;exact⟨fv,HB⟩
    | have _:Tg 3:=tg
      rw[hu] at CU;by_cases zo:o.size=0
      ·obtain⟨o1,o2⟩:=Cc zo;by_cases zg:n=0
       ·subst zg;by_cases zp:st=0
        all_goals
         replace CU:=H CU
        subst zp;have HF:=H (show R=Q by rw[HRR.out,Fa,hT.out,hu,aF ⟨zo,(rfl:(0:Int)=0),(rfl:(0:Int)=0)⟩];rfl);rotate_left;have p:(st==0)=z:=by simp[zp]
        have HF:=H (show R=z by rw[HRR.out,Fa,hT.out,hu,aC (λh=>zp h.2.2)];rfl);rotate_left
        all_goals
         exact og
       ·replace CU:=H CU;have g:(n==0)=z:=by simp[zg]
        have HF:=H (show R=z by rw[HRR.out,Fa,hT.out,hu,aC (λh=>zg h.2.1)];rfl);exact og
      ·replace CU:=H CU;obtain⟨o1,o2⟩:=Hc zo;have HF:=H (show R=z by rw[HRR.out,Fa,hT.out,hu,aC (λh=>zo h.1)];rfl);exact og
    | rw[hu] at CU
      cases ho:gD o
      ·rw[ho] at CO;replace CU:=H CU;replace CO:=H CO;have HF:=H (show R=z by rw[HRR.out,yw _ _ _ _ _ _ dc,hT.out,hu,ho];rfl);exact nU
      ·rw[ho] at CO;by_cases zg:n=0
       ·subst zg;by_cases zp:st=0
        all_goals
         replace CU:=H CU;replace CO:=H CO
        subst zp;have HF:=H (show R=Q by rw[HRR.out,yw _ _ _ _ _ _ dc,hT.out,hu,ho,aF (⟨D,D⟩:(0:Int)=0/\(0:Int)=0)];rfl);rotate_left;have p:(st==0)=z:=by simp[zp]
        have HF:=H (show R=z by rw[HRR.out,yw _ _ _ _ _ _ dc,hT.out,hu,ho,aC (λh=>zp h.2)];rfl);rotate_left
        all_goals
         exact nU
       ·replace CU:=H CU;replace CO:=H CO;have g:(n==0)=z:=by simp[zg]
        have HF:=H (show R=z by rw[HRR.out,yw _ _ _ _ _ _ dc,hT.out,hu,ho,aC (λh=>zg h.1)];rfl);exact nU
theorem Sq (k t:Int)(u o:ay)(n st:Int)(w:World)(hu:u.size<=9223372036854775807)(ho:o.size<=9223372036854775807)(h0:0<=t)(h1:t<=1099511627775)(hk:k<1∨7<k):
 aai 20 #[.agg #[I J k,I J t,C u,C o,I J n,I J st]] w (.bool (fL ⟨k,t,u,o,n,st⟩)):=by
 obtain⟨NU,NO⟩:=eN (λW=>fC u W hu) (λW=>fC o W ho);have SS:=λW=>nJ ⟨k,t,u,o,n,st⟩ W hu;unfold Ev.v Ev.cells at SS;simp only at SS;replace SS:=H SS;have T0:¬t<0:=om;have T1:¬t≥1099511627776:=om;have T2:¬(1099511627776:Int)<=t:=om;have hT:=H (show iP t 0 1099511627775=Q by unfold iP;rw[aF h0,aF h1];rfl);obtain⟨R,hR,HRR⟩:=nh (fL ⟨k,t,u,o,n,st⟩);rw[<-hR];clear hR hu ho;obtain⟨X,V,hX,hV,BX,HB,HXw,SV⟩:=gC w #[I J k,I J t,C u,C o,I J n,I J st] 26;obtain⟨x0,x1,x2,x3,x4,x5⟩:=jg BX;have hb0:=br V;have e1:(k==1)=z:=by simp;omega
 have e2:(k==2)=z:=by simp;omega
 have e3:(k==3)=z:=by simp;omega
 have e4:(k==4)=z:=by simp;omega
 have e5:(k==5)=z:=by simp;omega
 have e6:(k==6)=z:=by simp;omega
 have e7:(k==7)=z:=by simp;omega
 have HF:=H (show R=z by rw[HRR.out,E9 _ _ _ _ _ _ hk]);clear hk
 go_enter func20,ntmps20
 go_upto_region 1 with fail
 rw[<-hV,<-hX];clear hV hX
 go_wp2_with fail
 go_ret;exact⟨fv,HB⟩
theorem gF (e:Ev)(w:World)(hu:e.user.size<=9223372036854775807)(ho:e.other.size<=9223372036854775807):
 aai 20 #[e.v] w (.bool (fL e)):=by
 obtain⟨k,t,u,o,n,st⟩:=e;unfold Ev.v Ev.cells;by_cases h:0<=t/\t<=1099511627775
 ·rcases(by omega:k=1∨k=2∨k=3∨k=4∨k=5∨k=6∨k=7∨(k<1∨7<k)) with hk | hk | hk | hk | hk | hk | hk | hk
  ·exact Vc.1 k t u o n st w hu ho h.1 h.2 hk
  ·exact Vc.2 k t u o n st w hu ho h.1 h.2 hk
  ·exact Z4 k t u o n st w hu ho h.1 h.2 hk
  ·exact IU.1 k t u o n st w hu ho h.1 h.2 hk
  ·exact IU.2.1 k t u o n st w hu ho h.1 h.2 hk
  ·exact IU.2.2.1 k t u o n st w hu ho h.1 h.2 hk
  ·exact IU.2.2.2 k t u o n st w hu ho h.1 h.2 hk
  ·exact Sq k t u o n st w hu ho h.1 h.2 hk
 ·exact Sp k t u o n st w hu ho h
