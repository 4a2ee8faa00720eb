/- Lemmas for AfterglowSecret: what functions of the program return; no condition. -/
import Derived.Test.YtkpdknkidnfgiaaGreatDoorJI
import Derived.Test.YtkpdknkidnfgiaaGreatDoorJO
set_option maxHeartbeats 0
set_option maxRecDepth 100000
set_option linter.unusedVariables false
open Go.Value renaming int->I,string->C,slice->Z
open Go.IntKind renaming i64->J,u8->U
open Option renaming none->E,some->G
open Bool renaming true->Q,false->z
open Go.Lib renaming hid->H
open Go.Proofs.Tryz
namespace Go.Proofs.YtkpdknkidnfgiaaGreatDoor
variable {b g m n:Nat} {t:TypeId} {W:World}
namespace Tp
open Go Go.RowKit Go.Lib CrcM FrM
open Ds (qB jD)
def Rj (m:Nat):List UInt8:=if m=0 then [] else Lib.decDigits m
theorem Qt(h:m≠0):Rj m=Rj (m / 10)++[UInt8.ofNat (48+m % 10)]:=by
 unfold Rj;rw[az h,Lib.decDigits];by_cases h1:m<10
 ·rw[dif_pos h1,aA om,Nat.mod_eq_of_lt h1];rfl
 ·rw[dif_neg h1,az om]
theorem Ut (c:UInt8)(l):(⟨#[c]⟩:ay)++bs l=bs (c::l):=by
 apply dE;rw[dd];simp[bs]
theorem NQ (n:Nat)(w:World)(h1:n<=1099511627776):
 aai 49 #[I J n] w (C (eD n)):=by
 by_cases h0:n=0
 ·subst h0;have HZ:=H (show eD ((0:Nat):Int)=⟨#[48]⟩ by unfold eD sK;rw[aA om,show((0:Nat):Int).toNat=0 from rfl,decDigits_one om];rfl)
  go_enter func49,ntmps49
  go_wp2_with fail
  go_ret;exact⟨by rw[HZ.out];rfl,Bl.eH⟩
 ·have HD:=H (show eD n=bs (Rj n++[]) by unfold eD sK Rj;rw[aA om,az h0,aY];rfl);have e1:((n:Int)==0)=z:=by simp;omega
  have HL:=H (show(Rj n).length+([]:List UInt8).length<=100 by have h:=fg n;rw[HD.out,iR] at h;simpa using h)
  go_enter func49,ntmps49
  go_wp2_with fail
  go_loopw [0,3] (λx o wr=>∃ (m:Nat) (O:List UInt8),m<=n/\x= I J m/\o= C (bs O)/\Hid (eD n=bs (Rj m++O))/\Hid ((Rj m).length+O.length<=100)/\Bl w wr) (λx _ _=>(intOf x).toNat)
  case atStart=>exact⟨n,[],aB _,D,D,HD,HL,Bl.eH⟩
  case round=>
   obtain⟨m,O,hm,rfl,rfl,hO,hl,hb⟩:=hrel;have HBk:=H hb;by_cases hz:m=0
   ·subst hz;have HQ:=H (show eD n=bs O by rw[hO.out];rfl);have e2:¬((0:Nat):Int)>0:=om;clear hO hl
    go_wp2_with fail
    go_ret;exact⟨by rw[HQ.out];rfl,HBk⟩
   ·have HS:=Qt hz;obtain⟨HQ,HLq⟩:=eN (show eD n=bs (Rj (m / 10)++(wN (m % 10)::O)) by rw[hO.out,HS,aS,Pa _ om];rfl) (show(Rj (m / 10)).length+(wN (m % 10)::O).length<=100 by have h1:=hl.out;rw[HS,aU] at h1;simp at h1 ⊢;omega);have hsz:(bs O).size<=100:=by rw[iR];have:=hl.out;omega
    have HC:=H (Ut (wN (m % 10)) O);have e2:(m:Int)>0:=om;obtain⟨B,hB⟩:=fe (bs O);rw[<-hB] at HC hsz ⊢;clear hO hl HS hB
    go_wp2_with (go_at_call 70;refine qx (LH (m % 10) _ om) λw7 hb7=>?_)
    exact⟨⟨m / 10,_,om,eB,by rw[HC.out],HQ,HLq,HBk.ca hb7⟩,eE⟩
theorem J9 (s:ay)(w:World)(hs:s.size<=9223372036854775807):
 Calls prog 50 #[C s] w λe w'=>e= .returned (.bool (mh s))/\w=w':=by
 go_enter func50,ntmps50
 go_wp2_with fail
 go_loop [3] (λi=>∃ k:Nat,k<=s.size/\(s.data.toList.take k).all Mj=Q/\i= I J k) (λi=>s.size - (intOf i).toNat)
 case atStart=>exact⟨0,aD _,D,D⟩
 case round=>
  obtain⟨k,hk,ha,rfl⟩:=hrel;have HA:=H ha;clear ha;by_cases hlt:k<s.size
  ·obtain⟨HS,HN,HW⟩:=gi (λ(h:Mj s[k]=z)=>wS hlt h) (λ(h:Mj s[k]=Q)=>uA hlt HA h) (show Mj s[k]=(decide (33<=s[k].toNat)&&decide (s[k].toNat<=126)) from rfl);by_cases h1:s[k].toNat<33
   ·exact rL
   ·have e1:¬(s[k].toNat:Int)<33:=om;have d1:decide ((s[k].toNat:Int)<33)=z:=aC e1;by_cases h2:126<s[k].toNat
    ·exact rA
    ·have HN2:=H (HN rG);have e2:¬(126:Int)<(s[k].toNat:Int):=om;have d2:decide ((126:Int)<(s[k].toNat:Int))=z:=aC e2
     go_wp2
     exact⟨⟨k+1,om,HN2,eB⟩,eE⟩
  ·obtain rfl:k=s.size:=om;have HE:=H (show mh s=decide (s.size≠0) by unfold mh;rw[wT HA.out];rfl);by_cases h0:s.size=0
   ·have HF:=H (show mh s=z by rw[HE.out,h0];rfl);exact fu
   ·have HF:=H (show mh s=Q by rw[HE.out];exact aF h0)
    go_wp2
    go_ret;exact⟨by rw[HF.out];show Ending.returned (.bool (decide (0<s.size)))=_;rw[aF om],D⟩
def qc (s:ay):List Value:=[C s]
theorem AW (s):∀ u∈qc s,u.oneCell'=Q:=by simp[qc,Value.oneCell']
theorem nI:∀ F:List ay,F.flatMap qc=F.map Value.string
 | []=>rfl
 | x::r=>by rw[bh,nI r];rfl
theorem ki{cs}(F:List ay)(h:Bk W g t cs)(hc:cs=(F.map Value.string).toArray)(hn:n=F.length)(hl:F.length<=1000)(hb:b<=g):Rw qc t 1 W b (Z (G ⟨g,0,E⟩) n n) F:=by
 subst hn;refine⟨by rw[nI];simp,.inr ⟨g,F.length,cs,D,hb,h,aB _,eQ,by rw[hc];simp,?_⟩⟩;rw[hc,nI,Nat.mul_one];exact bz sm
theorem AZ{v}{F}(h:Rw qc 9 1 W b v F):eO W v F:=by
 have h1:=fa h (aD b);rw[nI] at h1;exact Da h1 rfl
theorem KI (s)(L:List (List UInt8))(y:List UInt8):Lib.join (L++[y]) s=(if L=[] then y else Lib.join L s++(s++y)):=by
 cases L with
 | nil=>rw[aA D];exact Lib.join_one y s
 | cons x r=>
  rw[az sm,bq,Lib.join_cons,Lib.join_cons,Lib.joinTail,Lib.joinTail];simp[List.append_assoc]
def jn (F:List ay):ay:=bs (Lib.join (F.map (·.data.toList)) [32])
theorem TE (F:List ay)(x:ay):jn (F++[x])=if F=[] then x else(jn F++bs [32])++x:=by
 unfold jn;rw[cz,bC,dP,KI];by_cases h:F=[]
 ·subst h;rw[aA sm,aA D,oP]
 ·rw[az fc,az h];apply dE;rw[dd,dd];simp[bs]
theorem Uw {F:List ay}(h:F.all mh=Q){x:ay}(hx:x∈F):mh x=Q:=bJ.1 h x hx
theorem kI (F)(v)(b:Nat)(w)(h:Rw qc 9 1 w b v F)(hl:F.length<=1000)(hF:∀ s∈F,s.size<=100000)(hw:F.all mh=Q):
 Calls prog 34 #[v] w λe w'=>e= .returned (C (gR F))/\w=w':=by
 obtain⟨A,cap,rfl,hnc,hcap⟩:=h.form;obtain⟨m,hm,HM⟩:=nh F.length;rw[<-hm] at h hnc hl ⊢;obtain⟨HR,HF,HW,HQ⟩:=kB h hF hw (show gR F=jn F by unfold gR jn;rw[aA hw]);have HZ:=H (λk=>show(jn (F.take k)).size<=1000*100001 by
  have h1:=rP 100000 ((F.take k).map (·.data.toList)) (λx hx=>by
   obtain⟨y,hy,rfl⟩:=bI.1 hx;have:=hF y (List.mem_of_mem_take hy)
   rwa[eZ] at this)
  unfold jn;rw[iR];refine aH h1 (bt _ ?_);rw[bg,aK];omega)
 clear h hm hF hw
 go_enter func34,ntmps34
 go_wp2_with fail
 go_loop [3,4] (λo i=>∃ k:Nat,k<=m/\i= I J k/\∃ O,o= C O/\Hid (O=jn (F.take k))) (λ_ i=>m - (intOf i).toNat)
 case atStart=>exact⟨0,aD _,D,_,D,H D⟩
 case round=>
  obtain⟨k,hk,rfl,O,rfl,hO⟩:=hrel;by_cases hlt:k<m
  ·have hk':k<F.length:=by rw[<-HM.out];exact hlt
   obtain⟨g,rfl,_,_,c0⟩:=HR.Js (f:=qc) (c0:=λx=>C x) (λ_=>rfl) k hk';have hx:=aV hk';have JS:=H (TE (F.take k) F[k]);rw[<-aL hk'] at JS;have hxs:=HF _ hx;have hxw:=Uw HW hx;have hOs:O.size<=1000*100001:=by rw[hO.out];exact HZ k
   have RW:=λW=>J9 F[k] W om;rw[hxw] at RW;replace RW:=H RW;generalize F[k]=x at*;have q0:=c0 w Bl.eH;obtain⟨i1,i2⟩:=ln (k:=k) (m:=m) om;clear hx hxw;by_cases hz:k=0
   ·obtain⟨HN,HE⟩:=eN (show x=jn (F.take (k+1)) by rw[JS.out,aA (by rw[hz];rfl)]) (show O=⟨#[]⟩ by rw[hO.out,hz];rfl);have e1:¬(k:Int)>0:=om;obtain rfl:=HE.out;clear hO hz
    go_wp2_with (go_at_call 50;refine QS (RW _) ?_)
    exact⟨⟨k+1,om,eB,_,D,H (by rw[<-HN.out];exact dE (by rw[dd];simp))⟩,eE⟩
   ·have HN:=H (show(O++bs [32])++x=jn (F.take (k+1)) by rw[JS.out,az (by intro h;have h1:=aP List.length h;rw[aK,b8] at h1;omega),hO.out]);have e1:(k:Int)>0:=om;clear hO hz
    go_wp2_with (go_at_call 50;refine QS (RW _) ?_)
    exact⟨⟨k+1,om,eB,_,D,H (by rw[<-HN.out];rfl)⟩,eE⟩
  ·have ek:k=m:=om;have i1:¬(k:Int)<m:=om;have HE:=H (show O=gR F by rw[HQ.out,hO.out,ek,HM.out,aT]);clear hO;exact ib
