/- Lemmas for AfterglowSecret: what functions of the program return; no condition. -/
import Derived.Test.YtkpdknkidnfgiaaGreatDoorJN
set_option maxHeartbeats 0
set_option maxRecDepth 100000
set_option linter.unusedVariables false
open Go.Value renaming int->I,string->C,slice->Z
open Go.IntKind renaming i64->J,u8->U
open Option renaming none->E,some->G
open Bool renaming true->Q,false->z
open Go.Lib renaming hid->H
open Go.Proofs.Tryz
namespace Go.Proofs.YtkpdknkidnfgiaaGreatDoor
theorem abo{p:Prop}(h:p:=by have:=UInt8.lt_iff_toNat_lt.1 h;omega):p:=h
theorem abA{p:Prop}(h:p:=by
 go_ret;exact⟨by rw[HQ.out];rfl,(by repeat (first | exact Bl.eH | apply Bl.drn | apply Bl.dr | apply Bl.al))⟩):p:=h
theorem ku{p:Prop}(h:p:=by
 go_wp2_with fail
 go_ret;exact⟨by rw[HQ.out];rfl,Bl.eH⟩):p:=h
theorem nW{p:Prop}(h:p:=by
 go_wp2_with fail
 go_round
 case rel=>exact⟨k+1,om,by go_num,HQ⟩
 case measure=>simp[intOf];omega):p:=h
theorem rK{p:Prop}(h:p:=by
 have ek:k=m:=om;have i1:¬(k:Int)<(m:Int):=om;have HBk:=H hb;rw[ek,HM.out,aT] at ho;have HO:=H ho;clear ho
 go_wp2_with fail
 go_ret;exact⟨_,D,HO,HBk⟩):p:=h
theorem qT{p:Prop}(h:p:=by
 rw[aF h1] at E1;have FN:=H (show(L.take (k+1)).filter p=(L.take k).filter p by rw[FT.out,PX,az (by simp[h1]),aY]);clear h1 PX
 go_wp2_with fail
 exact⟨⟨k+1,hlt,by go_num,by rw[FN.out];exact HO,HBk⟩,by simp[intOf];omega⟩):p:=h
theorem qW{p:Prop}(h:p:=by
 have ek:k=m:=om;have i1:¬(k:Int)<(m:Int):=om;have HBk:=H hb;rw[ek,HM.out,aT] at ho;have HO:=H ho;clear ho
 go_wp2_with fail
 go_ret;exact⟨_,D,HO.iD,HBk⟩):p:=h
variable {a:ByteArray} {K b bytes cap g k n sz:Nat} {t ty:TypeId} {V W W' w w' w2:World}
namespace Tp
open Go Go.RowKit Go.Lib
open Ds.DkM (bf gj ij gQ mY iZ)
theorem I5 (v:Value)(a:Nat)(w)(ha:a<=100000):Calls prog 318 #[v,I J a,I J a,vT] w λe w'=>e= .returned (.tuple #[])/\w=w':=by
 have i1:¬(a:Int)+1<(a:Int):=om
 go_enter func318,ntmps318
 go_wp2_with fail
 refine wp_loop_rounds 1 ?_;rw[rounds_succ]
 go_wp2_with fail
 go_end0;exact⟨D,D⟩
structure ZL (b g n cap:Nat)(L:List eP)(bs:Nat)(ar:List eP->Prop)(w:World)(a:Nat)(wr:World):Prop where
 h:∃ A R,fi wr b g n cap (A++R)/\(A++R).Perm L/\Rk bs A/\A.length=a/\ar R
 gr:w.grownBy wr (G g)
structure StL (b g n cap:Nat)(L:List eP)(bs:Nat)(w:World)(wr:World):Prop where
 h:∃ L1,fi wr b g n cap L1/\L1.Perm L/\uC bs L1
 gr:w.grownBy wr (G g)
theorem DG {A X M R L:List eP}(h:(A++(X++R)).Perm L)(k:M.Perm X):((A++M)++R).Perm L:=by
 rw[aS];exact((k.append_right R).append_left A).trans h
theorem Yj (L)(b g n cap:Nat)(w)(h:fi w b g n cap L)(hn:n<=100000)(h0:0<n):
 Calls prog 253 #[Z (G ⟨g,0,E⟩) n cap,I J n,vT] w (XX b g n cap [] [] (jO L) w):=by
 obtain⟨_,_,_,hnl⟩:=h.gs;obtain⟨HS,HN⟩:=eN (show ZL b g n cap L 20 (λ_=>True) w 0 w from⟨⟨[],L,h,.refl _,Rk.nil,D,trivial⟩,pO _ _⟩) hnl;clear h hnl
 go_enter func253,ntmps253
 go_wp2_with fail
 go_loopw [7,8] (λi j wr=>∃ a:Nat,i= I J a/\j= I J ((a:Int)+20)/\a<=n/\ZL b g n cap L 20 (λ_=>True) w a wr) (λi j _=>n - (intOf i).toNat)
 case atStart=>exact⟨0,D,D,aD _,HS⟩
 case round=>
  obtain⟨a,rfl,rfl,han,hI⟩:=hrel;obtain⟨⟨A,R,hh,hp,hpre,hA,_⟩,gr⟩:=hI;have hAR:A.length+R.length=n:=by rw[HN.out,<-hp.length_eq];simp
  by_cases hlt:a+20<=n
  ·have i1:(a:Int)+20<=(n:Int):=om;obtain⟨X,R',eR,hX⟩:∃ X R',R=X++R'/\X.length=20:=⟨R.take 20,R.drop 20,(bA _ _).symm,fO⟩;subst eR;have IN:=I6 A X R' b g n cap wr hh om hn;rw[hA,hX] at IN;replace IN:=H IN;obtain⟨HX,GR⟩:=eN (aJ hp (aJ hpre (aJ hA hX))) gr;clear hh hp hpre hA hX gr hAR
   go_wp2_with (go_at_call 318;refine IN.mono ?_;rintro e w5 ⟨rfl,M,hM,hr5,gr5⟩)
   refine⟨⟨a+20,D,aP (Value.int IntKind.i64) om,hlt,⟨A++M,R',by simpa using hr5,DG HX.out.1 hM.2,HX.out.2.1.snoc hM.1 (by rw[hM.2.length_eq,HX.out.2.2.2]),by simp[hM.2.length_eq,HX.out.2.2.1,HX.out.2.2.2],trivial⟩,p7 GR gr5⟩,?_⟩;simp[intOf];omega
  ·have i1:¬(a:Int)+20<=(n:Int):=om;have hst:Calls prog 318 #[Z (G ⟨g,0,E⟩) n cap,I J a,I J n,vT] wr λe w'=>e= .returned (.tuple #[])/\StL b g n cap L 20 w w':=by
    by_cases hR:R=[]
    ·subst hR;have ea:a=n:=by simp at hAR;omega
     subst ea;refine QS (I5 _ a wr om) ?_;rw[aY] at hh hp;exact⟨D,⟨A,hh,hp,by have k:=hpre [] (.last [] .nil sm);simpa using k⟩,gr⟩
    ·have IN:=I6 A R [] b g n cap wr (by simpa using hh) (List.length_pos_iff.2 hR) hn;have ea:(A.length:Int)+(R.length:Int)=(n:Int):=om;rw[ea,hA] at IN;refine IN.mono ?_;rintro e w' ⟨rfl,M,hM,hr5,gr5⟩;exact⟨D,⟨A++M,by simpa using hr5,((hM.2.append_left A)).trans hp,hpre M (.last M hM.1 (by rw[hM.2.length_eq];omega))⟩,p7 gr gr5⟩
   replace hst:=H hst;clear hh hp hpre hA gr hAR
   go_wp2_with (go_at_call 318;refine qx hst λw5 hL=>?_)
   have HL:=H hL;clear hL
   go_loopw [6] (λi wr=>∃ bs:Nat,i= I J bs/\20<=bs/\bs<=2*n+40/\StL b g n cap L bs w wr) (λi _=>n - (intOf i).toNat)
   case atStart=>exact⟨20,D,aB _,om,HL⟩
   case round=>
    obtain⟨bs,rfl,hb1,hb2,hI⟩:=hrel;obtain⟨⟨L1,hh,hp,hruns⟩,gr⟩:=hI;have hLn:L1.length=n:=by rw[HN.out,hp.length_eq]
    by_cases hlt2:bs<n
    ·have i2:(bs:Int)<n:=om;have HS2:=H (show ZL b g n cap L (2*bs) (uC bs) w 0 wr from⟨⟨[],L1,hh,hp,Rk.nil,D,hruns⟩,gr⟩);clear hh hp hruns gr hLn
     go_wp2_with fail
     go_loopw [7,8] (λi j wr=>∃ a:Nat,i= I J a/\j= I J ((a:Int)+2*(bs:Int))/\a<=n/\ZL b g n cap L (2*bs) (uC bs) w a wr) (λi j _=>n - (intOf i).toNat)
     case atStart=>exact⟨0,D,aP (Value.int IntKind.i64) om,aD _,HS2⟩
     case round=>
      obtain⟨a,rfl,rfl,han,hI⟩:=hrel;obtain⟨⟨A,R,hh,hp,hpre,hA,hruns⟩,gr⟩:=hI;have hAR:A.length+R.length=n:=by rw[HN.out,<-hp.length_eq];simp
      by_cases hlt3:a+2*bs<=n
      ·have i3:(a:Int)+2*(bs:Int)<=n:=om;obtain⟨X,R1,eR,hX,uX,hr1⟩:=hruns.split om;subst eR;have hl1:R1.length=R1.length:=rfl;rw[aU] at hAR;obtain⟨Y,R2,eR,hY,uY,hr2⟩:=hr1.split om;subst eR;have SY:=Hz (X.length+Y.length) A X Y R2 b g n cap hn (aB _) wr a (a+bs) (a+2*bs) hh uX uY om om hA.symm om om;have ea:((a+bs:Nat):Int)=(a:Int)+(bs:Int):=om;have eb:((a+2*bs:Nat):Int)=(a:Int)+2*(bs:Int):=om;rw[ea,eb] at SY;replace SY:=H SY;obtain⟨HX,GR⟩:=eN (show(A++((X++Y)++R2)).Perm L/\Rk (2*bs) A/\A.length=a/\X.length+Y.length=2*bs/\uC bs R2 from⟨by simpa using hp,hpre,hA,om,hr2⟩) gr;clear hh hp hpre hA hX hY uX uY gr hAR hruns ea eb
       go_wp2_with (go_at_call 319;refine SY.mono ?_;rintro e w6 ⟨rfl,M,hM,hr5,gr5⟩)
       obtain⟨q1,q2,q3,q4,q5⟩:=HX.out;have hMl:M.length=2*bs:=by rw[hM.2.length_eq];simp;omega
       refine⟨⟨a+2*bs,aP (Value.int IntKind.i64) om,aP (Value.int IntKind.i64) om,hlt3,⟨A++M,R2,by simpa using hr5,DG q1 hM.2,q2.snoc hM.1 hMl,by simp[hMl,q3],q5⟩,p7 GR gr5⟩,?_⟩;simp[intOf];omega
      ·have i3:¬(a:Int)+2*(bs:Int)<=n:=om;by_cases hm:a+bs<n
       ·have i4:(a:Int)+(bs:Int)<n:=om;obtain⟨X,Y,eR,hX,uX,hr1⟩:=hruns.split om;subst eR;rw[aU] at hAR;have uY:=hr1.one om;have SY:=Hz (X.length+Y.length) A X Y [] b g n cap hn (aB _) wr a (a+bs) n (by simpa using hh) uX uY om om hA.symm om om;have ea:((a+bs:Nat):Int)=(a:Int)+(bs:Int):=om;rw[ea] at SY;replace SY:=H SY;obtain⟨HX,GR⟩:=eN (show(A++(X++Y)).Perm L/\Rk (2*bs) A/\X.length+Y.length<=2*bs from⟨hp,hpre,om⟩) gr;clear hh hp hpre hA hX uX uY gr hAR hruns ea
        go_wp2_with (go_at_call 319;refine SY.mono ?_;rintro e w6 ⟨rfl,M,hM,hr5,gr5⟩)
        obtain⟨q1,q2,q3⟩:=HX.out;refine⟨⟨2*bs,aP (Value.int IntKind.i64) om,om,om,⟨A++M,by simpa using hr5,(hM.2.append_left A).trans q1,q2 M (.last M hM.1 (by rw[hM.2.length_eq];simpa using q3))⟩,p7 GR gr5⟩,?_⟩;simp[intOf];omega
       ·have i4:¬(a:Int)+(bs:Int)<n:=om;have HX:=H (show StL b g n cap L (2*bs) w wr from⟨⟨A++R,hh,hp,hpre R (.last R (hruns.one om) om)⟩,gr⟩);clear hh hp hpre hA gr hAR hruns
        go_wp2_with fail
        refine⟨⟨2*bs,aP (Value.int IntKind.i64) om,om,om,HX⟩,?_⟩;simp[intOf];omega
    ·have i2:¬(bs:Int)<n:=om;have FIN:=H (show ∃ M,jO L M/\fi wr b g n cap ([]++(M++[]))/\w.grownBy wr (G g) from⟨L1,⟨hruns.one om,hp⟩,by simpa using hh,gr⟩);clear hh hp hruns gr hLn
     go_wp2_with fail
     go_end0;exact⟨D,FIN⟩
theorem Yk (v:Value)(w):Calls prog 253 #[v,av,vT] w λe w'=>e= .returned (.tuple #[])/\w=w':=by
 have IN:=H (I5 v 0 w om)
 go_enter func253,ntmps253
 go_wp2_with fail
 refine wp_loop_rounds 1 ?_;rw[rounds_succ]
 go_wp2_with (go_at_call 318;refine QS IN ?_)
 refine wp_loop_rounds 1 ?_;rw[rounds_succ]
 go_wp2_with fail
 go_end0;exact⟨D,D⟩
theorem Ii (L)(v)(b:Nat)(V w)(h:Rw eP.cs 112 4 w b v L)(hn:L.length<=100000)(hV:Bl V w)(hVb:V.heap.size<=b):
 Calls prog 194 #[v,vT] w λe w'=>e= .returned (.tuple #[])/\∃ M,jO L M/\Rw eP.cs 112 4 w' b v M/\Bl V w':=by
 obtain⟨A,cap,rfl,hnc,hcap⟩:=h.form;by_cases h0:L.length=0
 ·have ST:=H (Yk (Z A 0 cap) w);have HL:L=[]:=aa6.1 h0;subst HL;obtain⟨HR,HB⟩:=eN h hV;clear h h0 hV
  go_enter func194,ntmps194
  go_wp2_with (go_at_call 253;refine QS ST ?_)
  go_end0;exact⟨D,[],⟨.nil,.refl _⟩,HR,HB⟩
 ·obtain⟨g,hg,hbg,_,_⟩:=h.at (f:=eP.cs) (λ_=>rfl) 0 om;subst hg;obtain⟨ST,HV⟩:=eN (Yj L b g L.length cap w h hn om) hV;obtain⟨n,hnn,HN⟩:=nh L.length;rw[<-hnn] at ST ⊢;clear h hV hnn
  go_enter func194,ntmps194
  go_wp2_with (go_at_call 253;refine ST.mono ?_;rintro e w5 ⟨rfl,M,hM,hr,gr⟩)
  go_end0;exact⟨D,M,hM,by simpa using hr,HV.gr gr (λk hk=>aba)⟩
theorem ZE:Fz bf:=⟨gj,ij,gQ⟩
theorem plU (L)(us)(β:Nat->Nat)(w)(h:uE w β L us)(ho:Ord il.u bf us)(u:ay):
 pH il.u bf us u<=L.length/\(∀ i (hi:i<L.length),i<pH il.u bf us u->bf (L[i]).u u=Q)/\(∀ i (hi:i<L.length),pH il.u bf us u<=i->bf (L[i]).u u=z)/\
 decide (∃ hk:pH il.u bf us u<L.length,(L[pH il.u bf us u]).u=u)=mi us u:=by
 have hl:=h.1;refine⟨by rw[hl];exact Bi _ _,λi hi hk=>?_,λi hi hk=>?_,?_⟩
 ·rw[(h.2 i hi om).1];exact uT us u i om hk
 ·rw[(h.2 i hi om).1];exact xR ZE us u i om ho hk
 ·rw[TW ZE ho];apply decide_eq_decide.2;constructor
  ·rintro⟨hk,e⟩;exact⟨om,by rw[<-(h.2 _ hk om).1];exact e⟩
  ·rintro⟨hk,e⟩;exact⟨om,by rw[(h.2 _ om hk).1];exact e⟩
theorem uE.set{ul}{us}(h:uE w (λ_=>b) ul us){y:UC}{au:il}(hu:y.u=au.u)(hr:Rw eP.cs 112 4 w b y.sv au.l):uE w (λ_=>b) (ul.set K y) (us.set K au):=by
 refine⟨by simp[h.1],λj h1 h2=>?_⟩;rw[cJ] at h1 h2;rw[dy,dy]
 split
 ·exact⟨hu,hr⟩
 ·exact h.2 j h1 h2
theorem uE.put{ul}{us}(h:uE w (λ_=>b) ul us)(K:Nat){y:UC}{au:il}(hu:y.u=au.u)(hr:Rw eP.cs 112 4 w b y.sv au.l):uE w (λ_=>b) (ul.take K++y::ul.drop K) (us.take K++au::us.drop K):=by
 have hl:=h.1;refine⟨by simp[hl],λj h1 h2=>?_⟩;have q1:(ul.take K++y::ul.drop K)[j]?=G (ul.take K++y::ul.drop K)[j]:=aW h1;have q2:(us.take K++au::us.drop K)[j]?=G (us.take K++au::us.drop K)[j]:=aW h2;generalize (ul.take K++y::ul.drop K)[j]=p at q1 ⊢;generalize (us.take K++au::us.drop K)[j]=q at q2 ⊢;rw[List.getElem?_append,aK] at q1 q2;rw[<-hl] at q2
 split at q1
 ·rename_i hj;rw[aA hj] at q2;rw[bE,aA om,aW om] at q1 q2;injection q1 with q1
  injection q2 with q2
  subst q1;subst q2;exact h.2 j om om
 ·rename_i hj;rw[az hj] at q2;cases hm:j - min K ul.length with
  | zero=>
   rw[hm] at q1 q2;injection q1 with q1
   injection q2 with q2
   subst q1;subst q2;exact⟨hu,hr⟩
  | succ m=>
   rw[hm,List.getElem?_cons_succ,dZ] at q1 q2;have hlt:K+m<ul.length:=by
    rcases bZ (K+m) ul.length with hlt | hge
    ·exact hlt
    ·rw[b6 hge] at q1;cases q1
   rw[aW hlt] at q1;rw[aW om] at q2;injection q1 with q1
   injection q2 with q2
   subst q1;subst q2;exact h.2 (K+m) hlt om
def iw (w w':World):Prop:=∀ g t cs,Bk w g t cs->t≠282->t≠244->Bk w' g t cs
theorem iw.of(h:Bl w w'):iw w w':=λ_ _ _ k _ _=>h.bl k
theorem iw.ca(h:iw w w')(k:iw w' w2):iw w w2:=λg t cs a b c=>k g t cs (h g t cs a b c) b c
theorem iw.gr{cs}(h:w.grownBy w' (G g))(hB:Bk w g t cs)(ht:t=282∨t=244):iw w w':=λk t2 cs2 a b c=>by
 refine(h.block k (aa2.1 a).1 λe=>?_).trans a;have e:k=g:=by injection e
 subst e;have a':w.heap[k]?=G (.cells cs2 t2):=a;have hB':w.heap[k]?=G (.cells cs t):=hB;rw[a'] at hB';injection hB' with hB'
 injection hB' with _ e2
 rcases ht with ht | ht
 ·exact b (e2.trans ht)
 ·exact c (e2.trans ht)
end Tp
end Go.Proofs.YtkpdknkidnfgiaaGreatDoor
namespace Go.World.grownBy
open Go.Proofs.YtkpdknkidnfgiaaGreatDoor Go.Proofs.YtkpdknkidnfgiaaGreatDoor.Tp
open Go Go.RowKit Go.Lib
open Ds.DkM (bf gj ij gQ mY iZ)
variable {a:ByteArray} {K b bytes cap g k n sz:Nat} {t ty:TypeId} {V W W' w w' w2:World}
theorem ca(h:w.grownBy W (G g))(hb:Bl W W'):w.grownBy W' (G g):=mX h hb
theorem al(h:w.grownBy W (G g))(o):w.grownBy (W.alloc o) (G g):=mX h (gl _ o)
theorem dr(h:w.grownBy W (G g)):w.grownBy W.drew (G g):=mX h Bl.eH.dr
theorem st{r}(h:w.grownBy W r){p:Addr}(hp:w.heap.size<=p.block)(v):w.grownBy (W.setCell p v) r:=
 ⟨h.os,h.tape,h.output,by simpa using h.size,λk hk hne=>(aa0 W _ v k om).trans (h.block k hk hne)⟩
end Go.World.grownBy
namespace Go.Proofs.YtkpdknkidnfgiaaGreatDoor
variable {a:ByteArray} {K b bytes cap g k n sz:Nat} {t ty:TypeId} {V W W' w w' w2:World}
namespace Tp
open Go Go.RowKit Go.Lib
open Ds.DkM (bf gj ij gQ mY iZ)
def UM (V:World)(b:Nat)(s':St)(e:Ending)(w':World):Prop:=∃ v',e= .returned v'/\iW w' b v' s'/\Bl V w'
def UO (V w:World)(b:Nat)(s':St)(e:Ending)(w':World):Prop:=∃ v',e= .returned v'/\iW w' b v' s'/\Bl V w'/\iw w w'
theorem QZ (s)(v)(b:Nat)(u:ay)(x:eP)(V w)(h:iW w b v s)(hx:x.ok=z)(hV:Bl V w):
 Calls prog 230 #[v,C u,x.v] w (UM V b s):=by
 obtain⟨vo,vu,vs,vt,ul,rfl,hr⟩:=h;unfold jd;have NN:=λW=>kl ⟨x.a,x.b⟩ W;have HOK:(⟨x.a,x.b⟩:fm).ok=z:=hx;rw[HOK] at NN;unfold fm.v at NN;replace NN:=H NN;have XV:=H (show x.v= .agg #[I J x.a,I J x.b,I J x.n,I J x.st] from rfl);rw[XV.out];obtain⟨Ao,co,rfl,_,_⟩:=hr.ho.form;obtain⟨Au,cu,rfl,_,_⟩:=hr.hu.form;obtain⟨As,cs,rfl,_,_⟩:=hr.hs.form;obtain⟨At,ct,rfl,_,_⟩:=hr.ht.form;have HR:=H hr;clear hx HOK hr;obtain⟨A,V1,hA,hV1,BA,BX,BY,HB,HAw,SV⟩:=qh w #[I J s.now,I J s.fb,Z Ao s.op.length co,Z Au ul.length cu,Z As s.sb.length cs,Z At s.tb.length ct] 131 #[I J x.a,I J x.b,I J x.n,I J x.st] 112 #[av,av,aw,aw,aw,aw] 131;obtain⟨a0,a1,a2,a3,a4,a5⟩:=jg BA;obtain⟨x0,x1,x2,x3⟩:=pw BX;obtain⟨y0,y1,y2,y3,y4,y5⟩:=jg BY;obtain⟨HBA,HBY⟩:=eN BA BY;have hb0:=br V1
 go_enter func230,ntmps230
 go_upto_region 1 with fail
 rw[<-hV1,<-hA];clear hV1 hA
 go_upto_region 2 with(go_at_call 193;refine qx (NN _) λw1 hb1=>?_)
 have HB1:=H hb1;obtain⟨a0,a1,a2,a3,a4,a5⟩:=uV a0 a1 a2 a3 a4 a5 w1 hb1;obtain⟨e0,e1,e2,e3,e4,e5⟩:=uV y0 y1 y2 y3 y4 y5 w1 hb1;have ef:=λj=>Bk.fr (hb1.bl HBY) j
 go_wp2_with fail
 have hY:YS w (A+2) 131 6 w1:=⟨HB.ca HB1,by rw[HAw.out];omega,_,HB1.bl HBY,D⟩;have hwA:=HAw.out;have hVw:=hV.size;have hr':=HR.bl (HB.ca HB1);obtain⟨cy,ky,_⟩:=hY.y;exact aa1 (eS (p:=6) D _ _ _ _ _ _ _ D (hY.kO _ _ _ _ _ _) underlying131 D iy) D ⟨_,D,⟨_,_,_,_,ul,D,hr'.kO ky _ _ _ _ _ _⟩,(hV.ca (HB.ca HB1)).kO om _ _ _ _ _ _⟩
theorem Q2 (s)(v)(b:Nat)(u)(x:eP)(V w)(h:iW w b v s)(hn:UI s)(ho:Ord il.u bf s.us)(hx:x.ok=Q)(hu:mi s.us u=Q)(hV:Bl V w)(hVb:V.heap.size<=b):
 Calls prog 230 #[v,C u,x.v] w (UO V w b {s with us:=p8 s.us u x}):=by
 obtain⟨vo,vu,vs,vt,ul,rfl,hr⟩:=h;unfold jd;obtain⟨hKl,p1,p2,p3⟩:=plU ul s.us _ w hr.hl ho u;rw[hu] at p3;obtain⟨K,hK⟩:=fe (pH il.u bf s.us u);have hne:=UW ZE (l:=s.us) (u:=u);rw[<-hK] at hKl p1 p2 p3 hne;have PL:=H (λW (hb:Bl w W)=>show aai 195 #[vu,C u,.func (.func 196) #[] #[]] W (.tuple #[I J K,.bool Q]) by
  have k:=Gx ul u vu b K W (hr.hu.bl hb) lZ hKl p1 p2;rw[p3] at k;exact k)
 obtain⟨hk,hku⟩:=bo p3;have hl:=hr.hl.1;have hk1:K<s.us.length:=om;obtain⟨hnm,hrow⟩:=hr.hl.2 K hk hk1;have UP:=H (Hu x hk1 hne (by rw[<-hnm];exact hku));obtain⟨Au,cu,rfl,_,_⟩:=hr.hu.form;obtain⟨g,rfl,hbg,hgl,c0,c1⟩:=hr.hu.Cm (f:=UC.cs) (c0:=λx=>C x.u) (c1:=λx=>Z x.A x.n x.c) (λ_=>rfl) K hk;have AD:=λW (hb:Bl w W)=>Jv (s.us[K]).l (ul[K]).sv b x W hx (hrow.bl hb) (by have:=hn.nl _ (aV hk1);omega);unfold UC.sv at AD;obtain⟨cg,hcg,_⟩:=hr.hu.cur;have HG:=H hcg;obtain⟨Ao,co,rfl,_,_⟩:=hr.ho.form;obtain⟨As,cs,rfl,_,_⟩:=hr.hs.form;obtain⟨At,ct,rfl,_,_⟩:=hr.ht.form;have HR:=H hr;have NN:=λW=>kl ⟨x.a,x.b⟩ W;have HOK:(⟨x.a,x.b⟩:fm).ok=Q:=hx;rw[HOK] at NN;unfold fm.v at NN;replace NN:=H NN;have XV:=H (show x.v= .agg #[I J x.a,I J x.b,I J x.n,I J x.st] from rfl);rw[XV.out] at AD ⊢;replace AD:=H AD;obtain⟨HKU,HNM⟩:=eN hku hnm;have zf:=λW (h:Bl w W)=>Bk.fr (h.bl HG) (K*2+1);have i1:(K:Int)<(ul.length:Int):=om;have i2:(0:Int)<=(K:Int):=om;have hVg:V.heap.size<=g:=om;clear hx HOK hr hcg hku hnm p3 hne hrow hl hKl hu hK;obtain⟨A,V1,hA,hV1,BA,BX,BY,HB,HAw,SV⟩:=qh w #[I J s.now,I J s.fb,Z Ao s.op.length co,Z (G ⟨g,0,E⟩) ul.length cu,Z As s.sb.length cs,Z At s.tb.length ct] 131 #[I J x.a,I J x.b,I J x.n,I J x.st] 112 #[av,av,aw,aw,aw,aw] 131;obtain⟨a0,a1,a2,a3,a4,a5⟩:=jg BA;obtain⟨x0,x1,x2,x3⟩:=pw BX;obtain⟨y0,y1,y2,y3,y4,y5⟩:=jg BY;obtain⟨HBA,HBY⟩:=eN BA BY;have d1:=λW (h:Bl V1 W)=>c1 W (HB.ca h);have zf:=λW (h:Bl V1 W)=>zf W (HB.ca h);have hb0:=br V1
 go_enter func230,ntmps230
 go_upto_region 1 with fail
 rw[<-hV1,<-hA];clear hV1 hA
 go_upto_region 2 with(go_at_call 193;refine qx (NN _) λw1 hb1=>?_)
 go_upto_region 5 with(go_at_call 195;refine qx (PL _ (HB.ca hb1)) λw2 hb2=>?_)
 obtain⟨HS2,HT⟩:=eN (hb1.ca hb2) (mJ (HB.ca (hb1.ca hb2)) (G g));refine jI (T:=λw'=>w.grownBy w' (G g)) (S:=Bl V1) [13] HT.dr HS2.dr λhT0 hS0=>?_
 try dsimp only at hT0 hS0
 refine qd 0 ?_;refine td 1 ?_;refine aaa [2,3] ?_;refine td 4 ?_;refine aaa [5,6,7] ?_;refine td 8 ?_;refine td 9 ?_;refine eK 10 λKQ hK=>?_;go_simp
 (go_at_call 199;refine aaj (AD _ (HB.ca hS0)) λv3 w3 hr3 hb3=>?_)
 obtain⟨A9,c9,rfl,hn9,hc9⟩:=hr3.form;have HN9:=H (aJ hn9 hc9);have hT1:=hT0.ca hb3;have hS1:=hS0.ca hb3;refine kq hK ?_;clear hK;refine aaa [11,12] ?_;refine eK 13 λKQ hK=>?_;go_simp;refine fJ (hK _ _) (tt hT1 _ _) (eI (j:=13) kr kr) (λhT2=>?_)
 try dsimp only at hT2
 clear hK
 try simp only[fI]
 refine iU ?_;have hT:=H hT2;obtain⟨hn9,hc9⟩:=HN9.out;have h3:=HS2.dr.ca hb3;have h4:=HB.ca h3;have hcg3:=h4.bl HG;have hRW:=HR.bl h4;have HST:=H (show oD (w3.setCell ⟨g,K*2+1,E⟩ (Z A9 (mQ (s.us[K]).l x).length c9)) b (Z Ao s.op.length co) (Z (G ⟨g,0,E⟩) ul.length cu) (Z As s.sb.length cs) (Z At s.tb.length ct) {s with us:=p8 s.us u x} (ul.set K ⟨(ul[K]).u,A9,(mQ (s.us[K]).l x).length,c9⟩) by
  refine⟨hRW.ho.fw hcg3 dc _,Rw.Gj (f:=UC.cs) (sz:=2) (k:=K) (j:=1) (λ_=>rfl) hRW.hu hk dc D,?_,hRW.hs.fw hcg3 dc _,hRW.ht.fw hcg3 dc _⟩;rw[UP.out];refine uE.set (hRW.hl.fw hcg3 dc _) HKU ?_;exact Rw.fw (fa hr3 (by have:=(HB.ca HS2.dr).size;omega)) hcg3 dc _)
 have kA:=Bk.fw (h3.bl HBA) hcg3 dc (K*2+1) (Z A9 (mQ (s.us[K]).l x).length c9);have kY:=Bk.fw (h3.bl HBY) hcg3 dc (K*2+1) (Z A9 (mQ (s.us[K]).l x).length c9);have hsz:=hT.size;clear hcg3 hRW;generalize w3.setCell ⟨g,K*2+1,E⟩ (Z A9 (mQ (s.us[K]).l x).length c9)=W4 at*;have a0:=kA.ce 0;have a1:=kA.ce 1;have a2:=kA.ce 2;have a3:=kA.ce 3;have a4:=kA.ce 4;have a5:=kA.ce 5;have e0:=kY.ce 0;have e1:=kY.ce 1;have e2:=kY.ce 2;have e3:=kY.ce 3;have e4:=kY.ce 4;have e5:=kY.ce 5;have ef:=λj=>Bk.fr kY j;have KY:=H kY;clear kA kY
 go_wp2_with fail
 have hV1:=hV.size;have hA1:=HAw.out;have hbV:Bl V W4:=hV.gr hT λk e=>(by injection e with e;omega);have hY:YS V (A+2) 131 6 W4:=⟨hbV,om,_,KY,D⟩;exact aa1 (eS (p:=6) D _ _ _ _ _ _ _ D (hY.kO _ _ _ _ _ _) underlying131 D iy) D ⟨_,D,⟨_,_,_,_,_,D,HST.kO KY _ _ _ _ _ _⟩,hbV.kO om _ _ _ _ _ _,
  iw.gr ((((((hT.st jr _).st jr _).st jr _).st jr _).st jr _).st jr _) HG (.inl D)⟩
theorem fH {α:Type}{f:α->List Value}{ops:Array Oper}{rest:List Oper}{o:Oper}{a:Act}{ar:Exit->Act->World->Prop}{e}(T:Ty t e sz bytes)(hgd:o.guard=E)(s x:Operand)
 (ho:o.op= .call {callee:=.builtin .append,args:=#[s,x],argTypes:=#[t,t]}) (base:Nat)
 {v:Value} {L:List α} (hs:a.eval s=v) (h:Rw f e sz w base v L) {g:Nat} (hx:a.eval x= Z (G ⟨g,0,E⟩) 1 1) {t2:TypeId} {cs:Array Value} (hB:Bk w g t2 cs) {y:α} (hy:cs.toList=f y) (hsz:cs.size=sz) (h1:∀ u∈f y,u.oneCell'=Q)
 (hn:L.length<=99999) (hbase:base<=w.heap.size)
 (k:∀ v' w',Rw f e sz w' base v' (L++[y])->(∀ V,base=V.heap.size->Bl V w->Bl V w')->wpList prog ops ar rest (a.put o.dst v') w'):wpList prog ops ar (o::rest) a w:=by
 refine uz T hgd s x ho base hs h hx (mP hB hsz (by rw[hy];exact h1)) om hbase (λv' w' h5 b=>k v' w' ?_ b);unfold Rw;rw[hy] at h5;rw[bB,aU];simpa using h5
theorem Oi {L:List fl}(u)(t:Int)(hk:k<L.length):tl [] u t (L.take (k+1))=tl [] u t (L.take k)++(if L[k].u=u/\(L[k].stay t).ok=Q then [L[k].stay t] else []):=by
 unfold tl;rw[aL hk,bF,cz,bF]
 congr 1
 by_cases h1:L[k].u=u
 ·by_cases h2:(L[k].stay t).ok=Q
  all_goals
   simp[h1,h2,mM]
 ·simp[h1]
theorem Gg (L)(u:ay)(t:Int)(v)(b:Nat)(w)(h:Rw fl.cs 289 4 w b v L)(hn:L.length<=1000):
 Calls prog 198 #[v,C u,I J t] w λe w'=>∃ v' M,e= .returned v'/\M.Perm (tl [] u t L)/\Rw eP.cs 112 4 w' w.heap.size v' M/\Bl w w':=by
 obtain⟨A,cap,rfl,hnc,hcap⟩:=h.form;have HR:=H h;obtain⟨m,hm,HM⟩:=nh L.length;rw[<-hm] at hn ⊢;clear h hm hnc hcap
 go_enter func198,ntmps198
 go_wp2_with fail
 go_loopw [13,7] (λi o wr=>∃ k:Nat,k<=m/\i= I J k/\Rw eP.cs 112 4 wr w.heap.size o (tl [] u t (L.take k))/\(tl [] u t (L.take k)).length<=k/\Bl w wr) (λi _ _=>m - (intOf i).toNat)
 case atStart=>exact⟨0,aD _,D,Rw.nil,aB _,Bl.eH⟩
 case round=>
  obtain⟨k,hk,rfl,ho,hlen,hb⟩:=hrel;by_cases hlt:k<m
  ·have hk':k<L.length:=by rw[<-HM.out];exact hlt
   obtain⟨g,rfl,_,_,c0,c1,c2,c3⟩:=(HR.bl hb).vW (f:=fl.cs) (c0:=λx=>I J x.n) (c1:=λx=>C x.u) (c2:=λx=>I J x.st) (c3:=λx=>I J x.a) (λ_=>rfl) k hk';have OT:=H (Oi u t hk');have ST:=λW=>xt L[k] t W;unfold fl.v eP.v at ST;replace ST:=H ST;generalize L[k]=x at*;have NN:=H (λW=>kl ⟨x.a,t⟩ W);unfold fm.v at NN;obtain⟨i1,i2⟩:=ln (k:=k) (m:=m) om;obtain⟨HB,HO⟩:=eN hb ho;have hb0:=br wr;clear ho
   go_upto_region 5 with fail
   clear c1;obtain⟨V2,G2,hV2,hG2,BG2,LV2⟩:=iC wr #[I J x.n,C x.u,I J x.st,I J x.a] 289;rw[<-hV2,<-hG2];clear hV2;replace hG2:=H hG2;obtain⟨g20,g21,g22,g23⟩:=pw BG2;have hb0:=br V2
   go_upto_region 6 with(go_at_call 257;refine qx (ST _) λw5 hb5=>?_)
   obtain⟨d0,d1,d2,d3⟩:=uW g20 g21 g22 g23 w5 hb5;obtain⟨V3,G3,hV3,hG3,BG3,LV3⟩:=iC w5 #[I J (x.stay t).a,I J (x.stay t).b,I J (x.stay t).n,I J (x.stay t).st] 112;rw[<-hV3,<-hG3];clear hV3;replace hG3:=H hG3;obtain⟨g30,g31,g32,g33⟩:=pw BG3;have H3:=H ((HB.ca (LV2.ca hb5)).ca LV3);have f0:=LV3.ce d0;have f1:=LV3.ce d1;have f2:=LV3.ce d2;have f3:=LV3.ce d3;have HO3:=H ((HO.bl (LV2.ca hb5)).bl LV3);have hb0:=br V3;have Xs:=H (show(x.stay t).a=x.a/\(x.stay t).b=t/\(x.stay t).n=x.n/\(x.stay t).st=x.st from⟨D,D,D,D⟩);have NN:∀ W,aai 193 #[.agg #[I J (x.stay t).a,I J (x.stay t).b]] W (.bool (!(x.stay t).ok)):=λW=>NN W;replace NN:=H NN;generalize x.stay t=y at*;by_cases hu:x.u=u
   ·have e1:=IV hu;by_cases hok:y.ok=Q
    ·rw[hok] at NN;have OT2:=H (show tl [] u t (L.take (k+1))=tl [] u t (L.take k)++[y] by rw[OT.out,aA ⟨hu,hok⟩]);clear hu hok
     go_wp2_with (first | (go_at_call 193;refine qx (NN _) λw6 hb6=>?_;have HO6:=H (HO3.bl hb6)) | (at_builtin;refine fH uL D _ _ D w.heap.size D (HO6.bl (gl _ _)) D (eL _ _) (y:=y) D D (j0 _) om ((H3.ca hb6).al _).size ?_;intro v7 w7 ho7 hb7))
     go_roundw
     case rel=>exact⟨k+1,hlt,eB,by rw[OT2.out];exact ho7,by rw[OT2.out];simp;omega,hb7 w D ((H3.ca hb6).al _)⟩
     case measure=>simp[intOf];omega
    ·rw[show y.ok=z by simpa using hok] at NN;have OT2:=H (show tl [] u t (L.take (k+1))=tl [] u t (L.take k) by rw[OT.out,az (λhh=>hok hh.2),aY]);clear hu hok
     go_wp2_with (go_at_call 193;refine qx (NN _) λw6 hb6=>?_;have HO6:=H (HO3.bl hb6))
     go_roundw
     case rel=>exact⟨k+1,hlt,eB,by rw[OT2.out];exact HO6,by rw[OT2.out];omega,H3.ca hb6⟩
     case measure=>simp[intOf];omega
   ·have e1:=Ej hu;have OT2:=H (show tl [] u t (L.take (k+1))=tl [] u t (L.take k) by rw[OT.out,az (λhh=>hu hh.1),aY]);clear hu
    go_wp2_with fail
    go_roundw
    case rel=>exact⟨k+1,hlt,eB,by rw[OT2.out];exact HO3,by rw[OT2.out];omega,H3⟩
    case measure=>simp[intOf];omega
  ·have ek:k=m:=om;have i1:¬(k:Int)<m:=om;rw[ek,HM.out,aT] at ho;have SO:=H (λ(W:World) (hW:Bl wr W)=>Ii _ _ w.heap.size w W (ho.bl hW) (by have e5:=HM.out;rw[ek,HM.out,aT] at hlen;omega) (hb.ca hW) (aB _));clear ho hlen ek;have hb0:=br wr
   go_wp2_with (go_at_call 194;refine(SO _ hb0).mono ?_;rintro e w5 ⟨rfl,M,hM,hr5,hb5⟩)
   go_ret;exact⟨_,M,D,hM.2,hr5,hb5⟩
theorem Nw {α:Type}{f:α->List Value}{cs}{x:α}(hB:Bk W g t cs)(hs:cs.size=sz)(hx:cs.toList=f x)(hb:b<=g):Rw f t sz W b (Z (G ⟨g,0,E⟩) 1 1) [x]:=by
 have e:[x].flatMap f=cs.toList:=by simp[hx]
 refine⟨by rw[e];simp[hs],.inr ⟨g,1,cs,D,hb,hB,aB _,dc,om,?_⟩⟩;rw[e];exact bz eC
theorem Mc (s)(v)(b:Nat)(u)(x:eP)(V w)(h:iW w b v s)(hn:UI s)(ho:Ord il.u bf s.us)(hx:x.ok=Q)(hu:mi s.us u=z)(hV:Bl V w)(hbw:b<=w.heap.size):
 Calls prog 230 #[v,C u,x.v] w (UM V b {s with us:=o9 bf s.us ⟨u,[x]⟩}):=by
 obtain⟨vo,vu,vs,vt,ul,rfl,hr⟩:=h;unfold jd;obtain⟨hKl,p1,p2,p3⟩:=plU ul s.us _ w hr.hl ho u;rw[hu] at p3;obtain⟨K,hK⟩:=fe (pH il.u bf s.us u);have UP:=H (BI (lt:=bf) s.us ⟨u,[x]⟩);rw[<-hK] at hKl p1 p2 p3;rw[show pH il.u bf s.us (il.mk u [x]).u=K from hK.symm] at UP;have PL:=H (λW (hb:Bl w W)=>show aai 195 #[vu,C u,.func (.func 196) #[] #[]] W (.tuple #[I J K,.bool z]) by
  have k:=Gx ul u vu b K W (hr.hu.bl hb) lZ hKl p1 p2;rw[p3] at k;exact k)
 have hl:=hr.hl.1;have hlu:=hn.nu;obtain⟨Au,cu,rfl,hnc,hcap⟩:=hr.hu.form;obtain⟨Ao,co,rfl,_,_⟩:=hr.ho.form;obtain⟨As,cs,rfl,_,_⟩:=hr.hs.form;obtain⟨At,ct,rfl,_,_⟩:=hr.ht.form;have HSL:=H (Rw.sl qm hr.hu);obtain⟨AQ,hAQ,HSU⟩:=HSL.VR hKl hnc;replace HSU:=H HSU;have HR:=H hr;have NN:=λW=>kl ⟨x.a,x.b⟩ W;have HOK:(⟨x.a,x.b⟩:fm).ok=Q:=hx;rw[HOK] at NN;unfold fm.v at NN;replace NN:=H NN;have XV:=H (show x.v= .agg #[I J x.a,I J x.b,I J x.n,I J x.st] from rfl);rw[XV.out];have HL:=H hl;obtain⟨n,hnn,HN⟩:=nh ul.length;rw[<-hnn] at HSL HSU hKl hnc hl PL ⊢;have i1:(K:Int)<=n:=om;have i2:(0:Int)<=(K:Int):=om;have i3:(K:Int)<=cu:=om;have i4:(n:Int)<=cu:=om;have hn1:n<=1000:=om;have FIN:=H (λ(W:World) (B g2:Nat) (v4:Value) (hB:b<=B) (hw:W.ownsRow B 282 2 v4 (K+1+(n - K)) ((ul.flatMap UC.cs).take (K*2)++(UC.cs ⟨u,G ⟨g2,0,E⟩,1,1⟩++(ul.flatMap UC.cs).drop (K*2))))=>show Rw UC.cs 282 2 W b v4 (ul.take K++⟨u,G ⟨g2,0,E⟩,1,1⟩::ul.drop K) by
  obtain⟨r1,r2⟩:=BH (f:=UC.cs) (sz:=2) (λ_=>rfl) (L:=ul) (e:=⟨u,G ⟨g2,0,E⟩,1,1⟩) (k:=K) (by rw[HN.out] at hKl;exact hKl);rw[HN.out,r1,r2] at hw;exact fa hw hB)
 clear hx HOK hr p3 hl hlu hu hK hnn;obtain⟨A,V1,hA,hV1,BA,BX,BY,HB,HAw,SV⟩:=qh w #[I J s.now,I J s.fb,Z Ao s.op.length co,Z Au n cu,Z As s.sb.length cs,Z At s.tb.length ct] 131 #[I J x.a,I J x.b,I J x.n,I J x.st] 112 #[av,av,aw,aw,aw,aw] 131;obtain⟨a0,a1,a2,a3,a4,a5⟩:=jg BA;obtain⟨x0,x1,x2,x3⟩:=pw BX;obtain⟨y0,y1,y2,y3,y4,y5⟩:=jg BY;have HBA:=H BA;have hVA:V.heap.size<=A:=by have:=hV.size;have:=HAw.out;omega
 have zf:=λW (h:Bl V1 W)=>Bk.fr (h.bl HBA) 3;have HBY:=H BY;have hb0:=br V1
 go_enter func230,ntmps230
 go_upto_region 1 with fail
 rw[<-hV1,<-hA];clear hV1 hA
 go_upto_region 2 with(go_at_call 193;refine qx (NN _) λw1 hb1=>?_)
 go_upto_region 7 with(go_at_call 195;refine qx (PL _ (HB.ca hb1)) λw2 hb2=>?_)
 obtain⟨HS2,HT⟩:=eN (hb1.ca hb2) (hV.ca (HB.ca (hb1.ca hb2)));refine jI (T:=Bl V) (S:=Bl V1) [16] HT.dr HS2.dr λhT0 hS0=>?_
 try dsimp only at hT0 hS0
 refine qd 0 ?_;refine td 1 ?_;refine aaa [2,3,4] ?_;refine td 5 ?_;refine qd 9 ?_;refine td 10 ?_;refine aaa [11,12] ?_;refine eK 6 λKQ hK=>?_;go_simp;refine tq (hK _ _) (hT0.al _) (hS0.al _) (λhT1 hS1=>?_)
 try dsimp only at hT1 hS1
 clear hK
 try simp only[fI]
 refine qd 7 ?_;refine eK 8 λKQ hK=>?_;go_simp;refine tq (hK _ _) (hT1.al _) (hS1.al _) (λhT2 hS2=>?_)
 try dsimp only at hT2 hS2
 clear hK
 try simp only[fI]
 refine eK 13 λKQ hK=>?_;go_simp;refine tq (hK _ _) (hT2.al _) (hS2.al _) (λhT3 hS3=>?_)
 try dsimp only at hT3 hS3
 clear hK
 try simp only[fI]
 refine eK 14 λKQ hK=>?_;go_simp
 go_at_call 302
 refine aaj (QJ (A1:=G ⟨w2.heap.size+1,0,E⟩) ((HSL.bl (HB.ca hS3)).pre (k:=K) om) (by exact mP (Bl.bl Bl.eH.dr (fK _ (fh _ _ sm))) D gO) (by exact HSU.bl (HB.ca hS3)) (by exact Bl.bl Bl.eH.dr (fh _ _ sm)) om) λv3 w3 ho3 hb3=>?_;have HG2:=H hS3.size;have hrw:=FIN _ _ _ _ (by have h1:=(HB.ca hS3).size;omega) ho3;have HXB:=H (show Bk w3 w2.heap.size 112 #[I J x.a,I J x.b,I J x.n,I J x.st] from Bl.bl hb3 (Bl.bl Bl.eH.dr (fK _ (fK _ (fh _ _ D)))));obtain⟨UL,hUL,HUL⟩:=nh (ul.take K++(⟨u,G ⟨w2.heap.size,0,E⟩,1,1⟩:UC)::ul.drop K);rw[<-hUL] at hrw;obtain⟨A9,c9,rfl,_,_⟩:=hrw.form;have HRW:=H hrw;clear hrw hUL;have hT4:=hT3.ca hb3;have hS4:=hS3.ca hb3;refine kq hK ?_;clear hK;refine qd 15 ?_;refine eK 16 λKQ hK=>?_;go_simp;refine fJ (hK _ _) (Bl.st hT4 (p:=⟨_,_,E⟩) hVA _) (eI (j:=16) kr kr) (λhT5=>?_)
 try dsimp only at hT5
 clear hK
 try simp only[fI]
 refine iU ?_;have hT:=H hT5;have h3:Bl V1 w3:=ms;have kA:Bk w3 A 131 _:=h3.bl HBA;have hRW:=HR.bl (HB.ca h3);have hg2:b<=w2.heap.size:=by have:=(HB.ca HS2).size;omega
 have HST:=H (show oD (w3.setCell ⟨A,3,E⟩ (Z A9 UL.length c9)) b (Z Ao s.op.length co) (Z A9 UL.length c9) (Z As s.sb.length cs) (Z At s.tb.length ct) {s with us:=o9 bf s.us ⟨u,[x]⟩} UL by
  refine oD.fw (s:={s with us:=o9 bf s.us ⟨u,[x]⟩}) ⟨hRW.ho,HRW,?_,hRW.hs,hRW.ht⟩ kA 3;rw[UP.out,HUL.out];exact uE.put hRW.hl K D (Nw HXB D D hg2))
 have kA4:=kA.set 3 (Z A9 UL.length c9);have kY:=show Bk (w3.setCell ⟨A,3,E⟩ (Z A9 UL.length c9)) (A+2) 131 _ from(aa0 w3 ⟨A,3,E⟩ _ (A+2) (by show A+2≠A;omega)).trans (h3.bl HBY);clear kA hRW;generalize w3.setCell ⟨A,3,E⟩ (Z A9 UL.length c9)=W4 at*;have a0:=kA4.ce 0;have a1:=kA4.ce 1;have a2:=kA4.ce 2;have a3:=kA4.ce 3;have a4:=kA4.ce 4;have a5:=kA4.ce 5;have e0:=kY.ce 0;have e1:=kY.ce 1;have e2:=kY.ce 2;have e3:=kY.ce 3;have e4:=kY.ce 4;have e5:=kY.ce 5;have ef:=λj=>Bk.fr kY j;have KY:=H kY;clear kA4 kY
 go_wp2_with fail
 have hV1:=hV.size;have hA1:=HAw.out;have hY:YS V (A+2) 131 6 W4:=⟨hT,om,_,KY,D⟩;exact aa1 (eS (p:=6) D _ _ _ _ _ _ _ D (hY.kO _ _ _ _ _ _) underlying131 D iy) D ⟨_,D,⟨_,_,_,_,_,D,HST.kO KY _ _ _ _ _ _⟩,hT.kO om _ _ _ _ _ _⟩
theorem UM.p{s}{e}(hV:Bl V w)(h:UM w b s e w'):UO V w b s e w':=
 let⟨v,h1,h2,h3⟩:=h;⟨v,h1,h2,hV.ca h3,iw.of h3⟩
theorem mA (s)(v)(b:Nat)(u:ay)(x:eP)(V w)(h:iW w b v s)(hn:UI s)(ho:Ord il.u bf s.us)(hV:Bl V w)(hVb:V.heap.size<=b)(hbw:b<=w.heap.size):
 Calls prog 230 #[v,C u,x.v] w (UO V w b {s with us:=qi bf s.us u x}):=by
 unfold qi;by_cases hx:x.ok=Q
 ·rw[aA hx];by_cases hu:mi s.us u=Q
  ·rw[aA hu];exact Q2 s v b u x V w h hn ho hx hu hV hVb
  ·rw[az hu];exact(Mc s v b u x w w h hn ho hx (by simpa using hu) Bl.eH hbw).mono λ_ _ k=>k.p hV
 ·rw[az hx];exact(QZ s v b u x w w h (by simpa using hx) Bl.eH).mono λ_ _ k=>k.p hV
end Tp
namespace Tp
open Go Go.RowKit Go.Lib
open Ds Ds.DkM
open Ds.DkM (bf gj ij gQ mY iZ)
theorem Bl.drn(h:Bl V W)(n:Nat):Bl V (W.drewN n):=⟨h.os,h.tape,h.output,h.size,h.block⟩
theorem vM {b:ay}(ha:k<a.size)(hb:k<b.size)(h:a.data.toList.take k=b.data.toList.take k):(a[k].toNat<b[k].toNat->bf a b=Q)/\(b[k].toNat<a[k].toNat->bf a b=z):=by
 have key:∀ (p x y:List UInt8) (c d:UInt8),(c.toNat<d.toNat->bytesBefore (p++c::x) (p++d::y)=Q)/\(d.toNat<c.toNat->bytesBefore (p++c::x) (p++d::y)=z):=by
  intro p x y c d
  induction p with
  | nil=>
   have e:bytesBefore (c::x) (d::y)=(decide (c<d)||(c==d&&bytesBefore x y)):=rfl;rw[bO,bO,e];refine⟨λhl=>by rw[show decide (c<d)=Q from aF (UInt8.lt_iff_toNat_lt.2 hl)];rfl,λhl=>?_⟩;have h1:decide (c<d)=z:=aC (λh=>abo);have h2:(c==d)=z:=by rw[aX];rintro rfl;omega
   rw[h1,h2];rfl
  | cons au p ih=>
   have e:bytesBefore (au::(p++c::x)) (au::(p++d::y))=(decide (au<au)||(au==au&&bytesBefore (p++c::x) (p++d::y))):=rfl;rw[bq,bq,e];have h1:decide (au<au)=z:=aC (λh=>abo);simp only[h1,beq_self_eq_true,Bool.false_or,Bool.true_and];exact ih
 have ea:a.data.toList=a.data.toList.take k++a[k]::a.data.toList.drop (k+1):=by
  have:=bA k a.data.toList;rw[aR (by simpa using ha)] at this;exact this.symm
 have eb:b.data.toList=b.data.toList.take k++b[k]::b.data.toList.drop (k+1):=by
  have:=bA k b.data.toList;rw[aR (by simpa using hb)] at this;exact this.symm
 unfold bf;rw[ea,eb,h];exact key _ _ _ _ _
theorem yE {b:ay}(h:a.data.toList.take (min a.size b.size)=b.data.toList.take (min a.size b.size)):bf a b=decide (a.size<b.size):=by
 have key:∀ (x y:List UInt8),x.take (min x.length y.length)=y.take (min x.length y.length)->bytesBefore x y=decide (x.length<y.length):=by
  intro x
  induction x with
  | nil=>intro y _;cases y<;>simp[bytesBefore]
  | cons c x ih=>
   intro y hh;cases y with
   | nil=>simp[bytesBefore]
   | cons d y=>
    simp only[bj,Nat.succ_min_succ,cK,List.cons.injEq] at hh;obtain⟨rfl,hh⟩:=hh;have e:bytesBefore (c::x) (c::y)=(decide (c<c)||(c==c&&bytesBefore x y)):=rfl;have h1:decide (c<c)=z:=aC (λh=>abo);rw[e,h1,ih y hh];simp
 unfold bf;have:=key a.data.toList b.data.toList (by rw[<-tJ,<-tJ];exact h);rw[this,tJ,tJ]
def ir (a b:ay):Int:=if bf a b=Q then -1 else if bf b a=Q then 1 else 0
theorem oO {b}(h:bf a b=Q):ir a b= -1:=by unfold ir;rw[aA h]
theorem pT {b}(h:bf b a=Q):ir a b=1:=by unfold ir;rw[az (by rw[iZ h];decide),aA h]
theorem uw {b}(h:bf a b=z)(h':bf b a=z):ir a b=0:=by unfold ir;rw[az aaL,az (by rw[h'];decide)]
theorem Hh {b}(h:bf a b=z):0<=ir a b:=by unfold ir;rw[az aaL];split<;>omega
def yM (a b:ay)(w:World)(e:Ending)(w':World):Prop:=e= .returned (I J (ir a b))/\∃ n:Nat,w'=w.drewN n
theorem xL (a b:ay)(w:World)(ha:a.size<=9223372036854775807)(_hb:b.size<=9223372036854775807):
 Calls prog 108 #[C a,C b] w (yM a b w):=by
 go_enter func108,ntmps108
 go_wp2_with fail
 go_loopw [5] (λi wr=>∃ k n:Nat,k<=a.size/\k<=b.size/\a.data.toList.take k=b.data.toList.take k/\i= I J k/\wr=w.drewN n) (λi _=>a.size - (intOf i).toNat)
 case atStart=>exact⟨0,0,aD _,aD _,D,D,D⟩
 case round=>
  obtain⟨k,n,hka,hkb,ht,rfl,rfl⟩:=hrel;have HT:=H ht;clear ht;by_cases hlt:k<a.size/\k<b.size
  ·obtain⟨la,lb⟩:=hlt;obtain⟨HS,HS2⟩:=eN (vM la lb HT) (vM lb la HT.symm);have i0:(0:Int)<=(k:Int):=om;have i1:(k:Int)<(a.size:Int):=om;have i2:(k:Int)<(b.size:Int):=om;by_cases h1:a[k].toNat<b[k].toNat
   ·have h1':(a[k].toNat:Int)<(b[k].toNat:Int):=om
    go_wp2_with fail
    go_quiet (fail)
    go_wp2_with fail
    go_ret;exact⟨by rw[oO (HS.out.1 h1)];rfl,_,World.drewN_drewN ..⟩
   ·by_cases h2:b[k].toNat<a[k].toNat
    ·have h1':(b[k].toNat:Int)<=(a[k].toNat:Int):=om;have h2':(b[k].toNat:Int)<(a[k].toNat:Int):=om
     go_wp2_with fail
     go_quiet (fail)
     go_wp2_with fail
     go_quiet (fail)
     go_wp2_with fail
     go_ret;exact⟨by rw[pT (HS2.out.1 h2)];rfl,_,by rw[World.drewN_drewN,World.drewN_drewN]⟩
    ·have heq:a[k].toNat=b[k].toNat:=om;have hq:a[k]=b[k]:=cE.1 heq;have HN:=H (show a.data.toList.take (k+1)=b.data.toList.take (k+1) by rw[lh a k la,lh b k lb,HT.out,hq]);clear hq h1 h2;have h1':(b[k].toNat:Int)<=(a[k].toNat:Int):=om;have h2':(a[k].toNat:Int)<=(b[k].toNat:Int):=om;clear heq
     go_wp2_with fail
     go_quiet (fail)
     go_wp2_with fail
     go_quiet (fail)
     go_wp2_with fail
     go_roundw
     case rel=>exact⟨k+1,_,om,om,HN,eB,D⟩
     case measure=>simp[intOf];omega
  ·have hmin:k=min a.size b.size:=om;obtain⟨HE,HF⟩:=eN (yE (a:=a) (b:=b) (by rw[<-hmin];exact HT)) (yE (a:=b) (b:=a) (by rw[Nat.min_comm,<-hmin];exact HT.symm));by_cases hl1:k<a.size
   ·have HE2:Hid (bf b a=Q):=H (by rw[HF.out];simp;omega);have h2:b.size<=k:=om;have h3:(b.size:Int)<(a.size:Int):=om;have h4:(b.size:Int)<=(a.size:Int):=om;clear hlt hmin
    go_wp2_with fail
    go_ret;exact⟨by rw[pT HE2.out];rfl,n,D⟩
   ·by_cases hl2:a.size<b.size
    ·have HE2:Hid (bf a b=Q):=H iK;have h3:a.size<=k:=om;clear hlt hmin hl1
     go_wp2_with fail
     go_ret;exact⟨by rw[oO HE2.out];rfl,n,D⟩
    ·have HE2:Hid (bf a b=z):=H iK;have HF2:Hid (bf b a=z):=H (by rw[HF.out];simp;omega);have h3:a.size<=k:=om;have h5:a.size=b.size:=om;have h6:(b.size:Int)<=(a.size:Int):=om;have h7:(a.size:Int)<=(b.size:Int):=om;clear hlt hmin hl1 hl2
     go_wp2_with fail
     go_ret;exact⟨by rw[uw HE2.out HF2.out];rfl,n,D⟩
theorem Jm (a b):decide (ir a b<0)=bf a b:=by
 unfold ir;cases h:bf a b<;>simp
 split<;>simp
theorem xN (x y:eP)(w):aai 48 #[x.v,y.v] w (.bool (x.lt y)):=by
 obtain⟨a,b,n,m⟩:=x;obtain⟨c,d,p,q⟩:=y;unfold eP.v eP.lt;simp only;obtain⟨r,hr,HR⟩:=nh (decide (a<c∨a=c/\(b<d∨b=d/\(n<p∨n=p/\m<q))));rw[<-hr];clear hr
 go_enter func48,ntmps48
 by_cases h1:a=c
 ·have e1:(a != c)=z:=by simp[h1]
  have H1:=H h1;clear h1;by_cases h2:b=d
  ·have e2:(b != d)=z:=by simp[h2]
   have H2:=H h2;clear h2;by_cases h3:n=p
   ·have e3:(n != p)=z:=by simp[h3]
    have H3:=H h3;clear h3
    go_wp2_with fail
    go_ret;exact⟨by rw[HR.out,H1.out,H2.out,H3.out];simp,Jp _ _ _⟩
   ·have e3:(n != p)=Q:=by simpa using h3
    have H3:=H h3;clear h3
    go_wp2_with fail
    go_ret;exact⟨by rw[HR.out,H1.out,H2.out];simp[H3.out],Jp _ _ _⟩
  ·have e2:(b != d)=Q:=by simpa using h2
   have H2:=H h2;clear h2
   go_wp2_with fail
   go_ret;exact⟨by rw[HR.out,H1.out];simp[H2.out],Jp _ _ _⟩
 ·have e1:(a != c)=Q:=by simpa using h1
  have H1:=H h1;clear h1
  go_wp2_with fail
  go_ret;exact⟨by rw[HR.out];simp[H1.out],Jp _ _ _⟩
theorem oo:(prog.info? 58).map (·.size)=G 4:=kr
theorem zt (x:fl)(t:Int)(w):Calls prog 174 #[x.v,I J t] w λe w'=>e= .returned (x.stay t).v/\Bl w w':=by
 obtain⟨n,u,s,a⟩:=x;unfold fl.v fl.stay eP.v;simp only
 go_enter func174,ntmps174
 go_wp2
 exact aa1 (eS (p:=4) D _ _ _ _ _ _ _ D (fh _ _ sm) underlying58 D oo) D ⟨D,Jp _ _ _⟩
theorem Su (x:Sub)(a b)(w):aai 176 #[x.v,.agg #[C a,C b]] w (.bool (decide (x.w=a/\x.u=b))):=by
 obtain⟨c,d,f,t⟩:=x;unfold Sub.v;simp only;have E1:(c.toList==a.toList)=decide (c=a):=gS;have E2:(d.toList==b.toList)=decide (d=b):=gS;rw[show decide (c=a/\d=b)=(decide (c=a)&&decide (d=b)) by simp];generalize decide (c=a)=p at E1 ⊢;generalize decide (d=b)=q at E2 ⊢;cases p with
 | true=>
  go_enter func176,ntmps176
  go_wp2_with fail
  go_ret;exact⟨sm,Jp _ _ _⟩
 | false=>
  go_enter func176,ntmps176
  go_wp2_with fail
  go_ret;exact⟨sm,Jp _ _ _⟩
theorem Dj (x y:Sub)(w)(hx:x.w.size<=1000000)(hx2:x.u.size<=1000000)(hy:y.w.size<=1000000)(hy2:y.u.size<=1000000):aai 107 #[x.v,y.v] w (.bool (Sub.lt bf x y)):=by
 obtain⟨a,b,f,t⟩:=x;obtain⟨c,d,g,q⟩:=y;unfold Sub.v Sub.lt;simp only at hx hx2 hy hy2 ⊢;obtain⟨r,hr,HR⟩:=nh ((if a=c then(if b=d then decide (f<g) else bf b d) else bf a c));rw[<-hr];obtain⟨C1,C2⟩:=eN (λW=>xL a c W om om) (λW=>xL b d W om om);unfold yM at C1 C2;have z1:ir a c=0↔a=c:=by
  unfold ir;by_cases h:a=c
  ·subst h;simp[gj]
  ·rcases gQ h with h' | h'<;>simp[h',h]
   split<;>simp
 have z2:ir b d=0↔b=d:=by
  unfold ir;by_cases h:b=d
  ·subst h;simp[gj]
  ·rcases gQ h with h' | h'<;>simp[h',h]
   split<;>simp
 have l1:=Jm a c;have l2:=Jm b d;generalize ir a c=m at*;generalize ir b d=n at*;clear hr hx hy;by_cases h1:m=0
 ·have e1:(m != 0)=z:=by simp[h1]
  by_cases h2:n=0;have e2:(n != 0)=z:=by simp[h2]
  have HQ:=H (show r=decide (f<g) by rw[HR.out,aA (z1.1 h1),aA (z2.1 h2)]);rotate_left;have e2:(n != 0)=Q:=by simpa using h2
  have HQ:=H (show r=decide (n<0) by rw[HR.out,aA (z1.1 h1),az (λh=>h2 (z2.2 h)),l2]);rotate_left
  all_goals
   clear h1 h2 l1 l2
   go_enter func107,ntmps107
   go_wp2_with (first | (go_at_call 108;with_reducible refine(C1.out _).mono ?_;rintro e w1 ⟨rfl,q1,rfl⟩) | (go_at_call 108;with_reducible refine(C2.out _).mono ?_;rintro e w1 ⟨rfl,q2,rfl⟩))
   exact abA
 ·have e1:(m != 0)=Q:=by simpa using h1
  have HQ:=H (show r=decide (m<0) by rw[HR.out,az (λh=>h1 (z1.2 h)),l1]);clear h1 l1 l2
  go_enter func107,ntmps107
  go_wp2_with (go_at_call 108;refine(C1 _).mono ?_;rintro e w1 ⟨rfl,q1,rfl⟩)
  exact abA
end Tp
namespace Tp
open Go Go.RowKit Go.Lib
open Ds.DkM (bf gj ij gQ mY iZ)
def Ev.cs (e:Ev):List Value:=[I J e.kind,I J e.time,C e.user,C e.other,I J e.n,I J e.st]
theorem Ha (e:Ev):∀ u∈e.cs,u.oneCell'=Q:=by simp[Ev.cs,Value.oneCell']
theorem Lh:(prog.info? 189).map (λi=>(i.zero,i.size,i.bytes))=G (G (.agg #[av,ax,av,av]),4,40):=kr
theorem oR:Ty 32 189 4 40:=⟨underlying32,fz Lh D,dc,dc⟩
theorem K7:(prog.info? 196).map (λi=>(i.zero,i.size,i.bytes))=G (G (.agg #[ax,ax,av,av]),4,48):=kr
theorem oQ:Ty 34 196 4 48:=⟨underlying34,fz K7 D,dc,dc⟩
theorem Lc:(prog.info? 58).map (λi=>(i.zero,i.size,i.bytes))=G (G (.agg #[av,av,av,av]),4,32):=kr
theorem mq:Ty 43 58 4 32:=⟨underlying43,fz Lc D,dc,dc⟩
theorem Le:(prog.info? 68).map (λi=>(i.zero,i.size,i.bytes))=G (G (.agg #[av,av]),2,16):=kr
theorem pz:Ty 40 68 2 16:=⟨underlying40,fz Le D,dc,dc⟩
theorem KU:(prog.info? 200).map (λi=>(i.zero,i.size,i.bytes))=G (G (.agg #[ax,aw]),2,40):=kr
theorem uM:Ty 33 200 2 40:=⟨underlying33,fz KU D,dc,dc⟩
theorem KZ:(prog.info? 202).map (λi=>(i.zero,i.size,i.bytes))=G (G (.agg #[ax,av]),2,24):=kr
theorem xh:Ty 35 202 2 24:=⟨underlying35,fz KZ D,dc,dc⟩
theorem Pp:(prog.info? 26).map (λi=>(i.zero,i.size,i.bytes))=G (G (.agg #[av,av,ax,ax,av,av]),6,64):=kr
theorem UR:Ty 22 26 6 64:=⟨underlying22,fz Pp D,dc,dc⟩
theorem Lf:(prog.info? 3).map (λi=>(i.zero,i.size,i.bytes))=G (G av,1,8):=kr
theorem F7:Ty 88 3 1 8:=⟨underlying88,fz Lf D,dc,dc⟩
theorem Lg:(prog.info? 61).map (λi=>(i.zero,i.size,i.bytes))=G (G av,1,8):=kr
theorem MM:Ty 63 61 1 8:=⟨underlying63,fz Lg D,dc,dc⟩
theorem Ld:(prog.info? 9).map (λi=>(i.zero,i.size,i.bytes))=G (G ax,1,16):=kr
theorem xi:Ty 48 9 1 16:=⟨underlying48,fz Ld D,dc,dc⟩
theorem rR {α:Type}(p:α->Bool){L:List α}(hk:k<L.length):gU p (L.drop k)=if p L[k] then 0 else gU p (L.drop (k+1))+1:=by
 rw[aR hk,gU]
theorem I3 {α:Type}{p:α->Bool}{L:List α}(hk:k<L.length)(h:gU p L=k+gU p (L.drop k))(hp:p L[k]=Q):lH p L=k:=by
 rw[rR p hk,aA hp] at h;unfold lH;rw[aA om,h];rfl
theorem En {α:Type}{p:α->Bool}{L:List α}(hk:k=L.length)(h:gU p L=k+gU p (L.drop k)):lH p L= -1:=by
 unfold lH;rw[az om]
theorem rQ {α:Type}{p:α->Bool}{L:List α}(hk:k<L.length)(h:gU p L=k+gU p (L.drop k))(hp:p L[k]=z):gU p L=k+1+gU p (L.drop (k+1)):=by
 rw[rR p hk,az (by rw[hp];decide)] at h;omega
theorem wq (L)(n:Int)(v)(b:Nat)(w)(h:Rw fl.cs 189 4 w b v L):
 aai 172 #[v,I J n] w (I J (lH (λx=>decide (x.n=n)) L)):=by
 obtain⟨A,cap,rfl,hnc,hcap⟩:=h.form;have HR:=H h;obtain⟨m,hm,HM⟩:=nh L.length;rw[<-hm] at hnc ⊢;obtain⟨K,hK,HK⟩:=nh (lH (λx:fl=>decide (x.n=n)) L);rw[<-hK];clear h hm hK
 go_enter func172,ntmps172
 go_wp2_with fail
 go_loop [5] (λi=>∃ k:Nat,k<=m/\i= I J k/\Hid (gU (λx:fl=>decide (x.n=n)) L=k+gU (λx:fl=>decide (x.n=n)) (L.drop k))) (λi=>m - (intOf i).toNat)
 case atStart=>exact⟨0,aD _,D,H sm⟩
 case round=>
  obtain⟨k,hk,rfl,hd⟩:=hrel;by_cases hlt:k<m
  ·have hk':k<L.length:=by rw[<-HM.out];exact hlt
   obtain⟨g,rfl,_,_,c0,_,_,_⟩:=HR.vW (f:=fl.cs) (c0:=λx=>I J x.n) (c1:=λx=>C x.u) (c2:=λx=>I J x.st) (c3:=λx=>I J x.a) (λ_=>rfl) k hk';have c0:=c0 w Bl.eH;obtain⟨i1,i2⟩:=ln (k:=k) (m:=m) om;by_cases hx:L[k].n=n
   ·have e1:(L[k].n==n)=Q:=by simp[hx]
    have HQ:=H (show K=k by rw[HK.out];exact I3 hk' hd (aF hx));generalize L[k]=x at c0 e1;clear hx;exact ku
   ·have e1:(L[k].n==n)=z:=by simpa using hx
    have HQ:=H (rQ hk' hd (aC hx));generalize L[k]=x at c0 e1;clear hx;exact nW
  ·have i1:¬(k:Int)<m:=om;have HQ:=H (show K= -1 by rw[HK.out];exact En iF hd);exact ku
theorem xJ (L)(a b:ay)(v)(b0:Nat)(w)(h:Rw Sub.cs 196 4 w b0 v L):
 aai 106 #[v,.agg #[C a,C b]] w (I J (lH (Sub.ou a b) L)):=by
 obtain⟨A,cap,rfl,hnc,hcap⟩:=h.form;obtain⟨m,hm,HM⟩:=nh L.length;rw[<-hm] at hnc ⊢;obtain⟨K,hK,HK⟩:=nh (lH (Sub.ou a b) L);rw[<-hK];obtain⟨X,V,hX,hV,BX,HB,HXw,SV⟩:=gC w #[C a,C b] 145;obtain⟨x0,x1⟩:=ni BX;have HR:=H (h.bl HB);clear h hm hK
 go_enter func106,ntmps106
 go_upto_region 1 with fail
 rw[<-hV,<-hX];clear hV hX
 go_wp2_with fail
 go_loopw [5] (λi wr=>∃ k:Nat,k<=m/\i= I J k/\Hid (gU (Sub.ou a b) L=k+gU (Sub.ou a b) (L.drop k))/\Bl V wr) (λi _=>m - (intOf i).toNat)
 case atStart=>exact⟨0,aD _,D,H sm,Bl.eH⟩
 case round=>
  obtain⟨k,hk,rfl,hd,hb⟩:=hrel;by_cases hlt:k<m
  ·have hk':k<L.length:=by rw[<-HM.out];exact hlt
   obtain⟨g,rfl,_,_,c0,c1,c2,c3⟩:=HR.vW (f:=Sub.cs) (c0:=λx=>C x.w) (c1:=λx=>C x.u) (c2:=λx=>I J x.a) (c3:=λx=>I J x.b) (λ_=>rfl) k hk';obtain⟨i1,i2⟩:=ln (k:=k) (m:=m) om;obtain⟨HN,HH⟩:=eN (rQ (p:=Sub.ou a b) hk' hd) (I3 (p:=Sub.ou a b) hk' hd);have HOF:=λW=>Su L[k] a b W;unfold Sub.v at HOF;have HF:=H (show Sub.ou a b L[k]=decide (L[k].w=a/\L[k].u=b/\L[k].b=FE) from rfl);generalize L[k]=x at*;have hbV:=hb;clear hd;by_cases hx:x.w=a/\x.u=b
   ·rw[aF hx] at HOF;replace HOF:=H HOF;by_cases hf:x.b=1099511627776
    ·have e1:(x.b==1099511627776)=Q:=by simp[hf]
     have HQ:=H (show K=k by rw[HK.out];exact HH (by rw[HF.out];exact aF ⟨hx.1,hx.2,hf⟩));clear hx hf
     go_wp2_with fail
     go_region_held3 (λw'=>Bl V w') (exact n7) (first | (go_at_call 176;refine qx (HOF _) λw5 hb5=>?_))
     have H5:Bl V w5:=ms
     go_wp2_with fail
     go_ret;exact⟨by rw[HQ.out];rfl,HB.ca H5⟩
    ·have e1:(x.b==1099511627776)=z:=by simpa using hf
     have HQ:=H (HN (by rw[HF.out];exact aC (λh=>hf h.2.2)));clear hx hf
     go_wp2_with fail
     go_region_held3 (λw'=>Bl V w') (exact n7) (first | (go_at_call 176;refine qx (HOF _) λw5 hb5=>?_))
     have H5:Bl V w5:=ms
     go_wp2_with fail
     go_roundw
     case rel=>exact⟨k+1,om,eB,HQ,H5⟩
     case measure=>simp[intOf];omega
   ·rw[aC hx] at HOF;replace HOF:=H HOF;have HQ:=H (HN (by rw[HF.out];exact aC (λh=>hx ⟨h.1,h.2.1⟩)));clear hx
    go_wp2_with fail
    refine jI (T:=Bl V) (S:=Bl V) [] hb.dr hb.dr λhT0 hS0=>?_
    try dsimp only at hT0 hS0
    refine aaa [0,1,2] ?_;refine td 3 ?_;refine td 4 ?_;refine eK 5 λKQ hK=>?_;go_simp
    (go_at_call 176;refine qx (HOF _) λw5 hb5=>?_)
    have hT1:=hT0.ca hb5;have hS1:=hS0.ca hb5;refine kq hK ?_;clear hK;refine aaa [6,7,8,9,10,11,12,13] ?_;refine iU ?_;have hT:=H hT1;have H5:Bl V w5:=hT.out
    go_wp2_with fail
    go_roundw
    case rel=>exact⟨k+1,om,eB,HQ,H5⟩
    case measure=>simp[intOf];omega
  ·have i1:¬(k:Int)<m:=om;have HQ:=H (show K= -1 by rw[HK.out];exact En iF hd)
   go_wp2_with fail
   go_ret;exact⟨by rw[HQ.out];rfl,HB.ca hb⟩
theorem P8:∀ (L:List fl) (n:Int),kC L n=L[gU (λx=>decide (x.n=n)) L]?
 | [],_=>rfl
 | x::r,n=>by
   unfold kC gU;rw[List.find?_cons];by_cases h:x.n=n
   ·simp[h]
   ·simp[h];exact P8 r n
def aaH (L:List fl)(n:Int)(u:ay)(w:World)(e:Ending)(w':World):Prop:=
 Bl w w'/\((∃ x,kC L n=G x/\x.u=u/\e= .returned (.tuple #[x.v,av]))∨((∀ x,kC L n=G x->x.u≠u)/\∃ y:fl,∃ ak:Int,ak≠0/\e= .returned (.tuple #[y.v,I J ak])))
theorem vf:(prog.info? 189).map (·.size)=G 4:=kr
theorem eM {P:Program}{fn:Func}{p a:Tmp}{ty:TypeId}(h:fn.results=#[.cell p ty,.tmp a])(tmps:Array Value)(w:World)(g:Nat)(t:TypeId)(cs:Array Value)(fr:Nat×Nat)(d:TypeDesc)
 (hp:tmps.getD p undef= .pointer (G ⟨g,0,E⟩)) (hg:w.heap[g]?=G (.cells cs t fr))
 (hu:P.underlying ty=G d) (hd:(match d with | .struct _ | .array _ _=>Q | _=>z)=Q) (hi:(P.info? ty).map (·.size)=G cs.size):
 (results fn tmps).run P w= .ok (.tuple #[.agg cs,tmps.getD a undef]) w:=by
 have hp':tmps[p]?.getD undef= .pointer (G ⟨g,0,E⟩):=by simpa using hp
 simp[results,h,hp',asAddr,run_loadVar_row w g t ty cs fr d hg hu hd hi]
theorem zy (L)(n:Int)(u:ay)(v)(b:Nat)(w)(h:Rw fl.cs 189 4 w b v L):
 Calls prog 173 #[v,I J n,C u] w (aaH L n u w):=by
 have AT:=H (λW (hb:Bl w W)=>wq L n v b W (h.bl hb));obtain⟨A,cap,rfl,hnc,hcap⟩:=h.form;have FD:=H (P8 L n);obtain⟨V,hV⟩:=fe (w.alloc (.cells #[av,ax,av,av] 189));by_cases hk:gU (λx:fl=>decide (x.n=n)) L<L.length
 ·have hz:lH (λx:fl=>decide (x.n=n)) L=(gU (λx:fl=>decide (x.n=n)) L:Nat):=by unfold lH;rw[aA hk]
  rw[hz] at AT;obtain⟨K,hK⟩:=fe (gU (λx:fl=>decide (x.n=n)) L);rw[<-hK] at AT hk FD;obtain⟨g,rfl,_,_,c0,c1,c2,c3⟩:=h.vW (f:=fl.cs) (c0:=λx=>I J x.n) (c1:=λx=>C x.u) (c2:=λx=>I J x.st) (c3:=λx=>I J x.a) (λ_=>rfl) K hk;have FD2:=H (show kC L n=G L[K] by rw[FD.out,aW hk]);obtain⟨m,hm⟩:=fe L.length;obtain⟨i1,i2⟩:=ln (k:=K) (m:=m) om;have i3:¬((K:Int)<0):=om;rw[<-hm] at AT ⊢;generalize L[K]=x at*;clear h hz hK hV hm hk hnc hcap;by_cases hu:x.u=u;have e1:=IV hu;have HU:=H hu;clear hu;rotate_left;have e1:=Ej hu;rotate_left
  all_goals
   go_enter func173,ntmps173
   go_wp2_with (go_at_call 172;refine qx (AT _ (gl _ _)) λw5 hb5=>?_;have hb6:=(gl _ _).ca hb5;obtain⟨d0,d1,d2,d3⟩:=uW c0 c1 c2 c3 _ hb6;have hB5:=Bk.all (eL w (.cells #[av,ax,av,av] 189));have q0:=hB5 0 D _ hb5;have q1:=hB5 1 D _ hb5;have q2:=hB5 2 D _ hb5;have q3:=hB5 3 D _ hb5;have qf:=λj=>Bk.fr (hb5.bl (eL w (.cells #[av,ax,av,av] 189))) j;clear hB5)
  ·exact aa1 (eM (p:=6) (a:=7) D _ _ _ _ _ _ _ D (show Bk _ _ _ #[I J x.n,C x.u,I J x.st,I J x.a] from(Bk.set (Bk.set (Bk.set (Bk.set (hb5.bl (eL _ _)) 0 _) 1 _) 2 _) 3 _)) underlying189 D vf) D ⟨(((hb6.st (aB _) _).st (aB _) _).st (aB _) _).st (aB _) _,aG ⟨x,FD2,HU,D⟩⟩
  ·exact aa1 (eM (p:=6) (a:=7) D _ _ _ _ _ _ _ D (show Bk _ _ _ #[av,ax,av,av] from(Bk.set (Bk.set (Bk.set (Bk.set (hb5.bl (eL _ _)) 0 _) 1 _) 2 _) 3 _)) underlying189 D vf) D ⟨(((hb6.st (aB _) _).st (aB _) _).st (aB _) _).st (aB _) _,aI ⟨λy hy=>(by rw[FD2.out] at hy;injection hy with hy;rw[<-hy];exact hu),⟨0,⟨#[]⟩,0,0⟩,102,dc,D⟩⟩
 ·have hz:lH (λx:fl=>decide (x.n=n)) L= -1:=by unfold lH;rw[az hk]
  rw[hz] at AT;have FD2:=H (show kC L n=E by rw[FD.out,b6 om]);clear h hz hV hk
  go_enter func173,ntmps173
  go_wp2_with (go_at_call 172;refine qx (AT _ (gl _ _)) λw5 hb5=>?_;have hb6:=(gl _ _).ca hb5;have hB5:=Bk.all (eL w (.cells #[av,ax,av,av] 189));have q0:=hB5 0 D _ hb5;have q1:=hB5 1 D _ hb5;have q2:=hB5 2 D _ hb5;have q3:=hB5 3 D _ hb5;have qf:=λj=>Bk.fr (hb5.bl (eL w (.cells #[av,ax,av,av] 189))) j;clear hB5)
  exact aa1 (eM (p:=6) (a:=7) D _ _ _ _ _ _ _ D (show Bk _ _ _ #[av,ax,av,av] from(Bk.set (Bk.set (Bk.set (Bk.set (hb5.bl (eL _ _)) 0 _) 1 _) 2 _) 3 _)) underlying189 D vf) D ⟨(((hb6.st (aB _) _).st (aB _) _).st (aB _) _).st (aB _) _,aI ⟨λy hy=>(by rw[FD2.out] at hy;cases hy),⟨0,⟨#[]⟩,0,0⟩,101,dc,D⟩⟩
def zU (n:Int):List Value:=[I J n]
theorem ug (n:Int):∀ u∈zU n,u.oneCell'=Q:=by simp[zU,Value.oneCell']
theorem Rw.Js {α:Type}{f:α->List Value}{c0:α->Value}(hf:∀ x,f x=[c0 x]){L:List α}{A}(h:Rw f t 1 V b (Z A n cap) L)(k:Nat)(hk:k<L.length):
 ∃ g,A=G ⟨g,0,E⟩/\b<=g/\g<V.heap.size/\(∀ W,Bl V W->W.cell? ⟨g,k,E⟩=G (c0 L[k])):=by
 obtain⟨g,hA,hb,hg,hc⟩:=h.at (λx=>by rw[hf];rfl) k hk;rw[hf] at hc;exact⟨g,hA,hb,hg,λW hW=>hW.ce (by have:=hc 0 dc;simpa using this)⟩
theorem Kh {L:List Int}{n:Int}{d:Bool}(hk:k<L.length):je n d (L.drop k)=if(d||decide (L[k]=n))=z/\n<L[k] then n::L[k]::je n Q (L.drop (k+1)) else L[k]::je n (d||decide (L[k]=n)) (L.drop (k+1)):=by
 rw[aR hk,je]
theorem tU (n:Int):∀ (L:List Int) (d:Bool),(je n d L).length<=L.length+1
 | [],d=>by unfold je;split<;>simp
 | x::r,d=>by
   unfold je;have h1:=tU n r (d||decide (x=n))
   split
   ·rename_i h;have:∀ (l:List Int),(je n Q l).length=l.length:=by
     intro l;induction l with
     | nil=>rfl
     | cons y l ih=>unfold je;simp[ih]
    simp[this]
   ·simp;omega
theorem Dm (L:List Int)(n:Int)(v)(b:Nat)(w)(h:Rw zU 3 1 w b v L)(hn:L.length<=40000):
 Calls prog 69 #[v,I J n] w λe w'=>∃ v',e= .returned v'/\Rw zU 3 1 w' w.heap.size v' (je n z L)/\Bl w w':=by
 obtain⟨A,cap,rfl,hnc,hcap⟩:=h.form;have HR:=H h;obtain⟨m,hm,HM⟩:=nh L.length;rw[<-hm] at hnc hn ⊢;clear h hm
 go_enter func69,ntmps69
 go_wp2_with fail
 go_loopw [7,5,6] (λi o d wr=>∃ k:Nat,k<=m/\i= I J k/\∃ (O:List Int) (aq:Bool),d= .bool aq/\Rw zU 3 1 wr w.heap.size o O/\Hid (O++je n aq (L.drop k)=je n z L)/\O.length<=2*k/\Bl w wr) (λi _ _ _=>m - (intOf i).toNat)
 case atStart=>exact⟨0,aD _,D,[],z,D,Rw.nil,H sm,aD _,Bl.eH⟩
 case round=>
  obtain⟨k,hk,rfl,O,aq,rfl,ho,hO,hlen,hb⟩:=hrel;by_cases hlt:k<m
  ·have hk':k<L.length:=by rw[<-HM.out];exact hlt
   obtain⟨g,rfl,_,_,c0w⟩:=HR.Js (f:=zU) (c0:=λx=>I J x) (λ_=>rfl) k hk';have PD:=H (Kh (n:=n) (d:=aq) hk');obtain⟨i1,i2⟩:=ln (k:=k) (m:=m) om;obtain⟨HBk,HO⟩:=eN hb ho;generalize L[k]=x at*;have c0:=c0w wr hb;clear ho;obtain⟨P,hP⟩:=fe (decide (x=n));have e1:(x==n)=P:=by rw[hP];rfl
   obtain⟨ar,hQ⟩:=fe (decide (n<x));have e2:decide (n<x)=ar:=hQ.symm;have FN:=H (show(O++(if(aq||P)=z/\ar=Q then [n,x] else [x]))++je n (if(aq||P)=z/\ar=Q then Q else aq||P) (L.drop (k+1))=je n z L by
    rw[<-hO.out,PD.out,<-hP,aS]
    congr 1
    by_cases hc:(aq||P)=z/\n<x
    ·have hc':(aq||P)=z/\ar=Q:=⟨hc.1,by rw[hQ];exact aF hc.2⟩;rw[aA hc',aA hc',aA hc];rfl
    ·have hc':¬((aq||P)=z/\ar=Q):=λh=>hc ⟨h.1,bo (by rw[<-hQ];exact h.2)⟩;rw[az hc',az hc',az hc];rfl)
   clear hP hQ;cases aq<;>cases P<;>cases ar
   all_goals
    go_wp2_with (at_builtin;first | (refine fH F7 D _ _ D w.heap.size D (ho7.bl (gl _ _)) D (eL _ _) (y:=x) D D (ug _) eC ((hb7 w D (HBk.al _)).al _).size ?_;intro v8 w8 ho8 hb8) | (refine fH F7 D _ _ D w.heap.size D (HO.bl (gl _ _)) D (eL _ _) (y:=_) D D (ug _) om (HBk.al _).size ?_;intro v7 w7 ho7 hb7;have c7:=c0w w7 (hb7 w D (HBk.al _))))
    first
     | exact⟨⟨k+1,hlt,eB,_,_,D,ho8,H (by have h1:=FN.out;simpa using h1),eC,hb8 w D ((hb7 w D (HBk.al _)).al _)⟩,eE⟩
     | exact⟨⟨k+1,hlt,eB,_,_,D,ho7,H (by have h1:=FN.out;simpa using h1),eC,hb7 w D (HBk.al _)⟩,eE⟩
  ·have ek:k=m:=om;have i1:¬(k:Int)<m:=om;obtain⟨HBk,HO,FN⟩:=gi hb ho (show O++je n aq []=je n z L by have h1:=hO.out;rw[ek,HM.out,bX] at h1;exact h1);clear ho hO;cases aq
   all_goals
    go_wp2_with (at_builtin;refine fH F7 D _ _ D w.heap.size D (HO.bl (gl _ _)) D (eL _ _) (y:=n) D D (ug _) om (HBk.al _).size ?_;intro v7 w7 ho7 hb7)
    go_ret
    first
     | exact⟨_,D,by rw[<-FN.out];exact ho7,hb7 w D (HBk.al _)⟩
     | exact⟨_,D,by rw[<-FN.out];simpa[je] using HO.out,HBk⟩
theorem Lx {L:List fm}(hk:k<L.length):kZ (L.take (k+1))=je L[k].b z (je L[k].a z (kZ (L.take k))):=by
 unfold kZ;rw[aL hk,cX];rfl
theorem uo:∀ (L:List fm) (o:List Int),(L.foldl (λo s=>je s.b z (je s.a z o)) o).length<=o.length+2*L.length
 | [],o=>by simp
 | x::r,o=>by
   rw[dj];have h1:=uo r (je x.b z (je x.a z o));have h2:=tU x.b (je x.a z o) z;have h3:=tU x.a o z;simp;omega
theorem Ke (L)(v)(b:Nat)(w)(h:Rw fm.cs 68 2 w b v L)(hn:L.length<=10000):
 Calls prog 45 #[v] w λe w'=>∃ v',e= .returned v'/\Rw zU 3 1 w' 0 v' (kZ L)/\Bl w w':=by
 obtain⟨A,cap,rfl,hnc,hcap⟩:=h.form;have HR:=H h;obtain⟨m,hm,HM⟩:=nh L.length;rw[<-hm] at hnc hn ⊢;clear h hm
 go_enter func45,ntmps45
 go_wp2_with fail
 go_loopw [4,3] (λi o wr=>∃ k:Nat,k<=m/\i= I J k/\Rw zU 3 1 wr 0 o (kZ (L.take k))/\Bl w wr) (λi _ _=>m - (intOf i).toNat)
 case atStart=>exact⟨0,aD _,D,Rw.nil,Bl.eH⟩
 case round=>
  obtain⟨k,hk,rfl,ho,hb⟩:=hrel;by_cases hlt:k<m
  ·have hk':k<L.length:=by rw[<-HM.out];exact hlt
   obtain⟨g,rfl,_,_,c0,c1⟩:=(HR.bl hb).Cm (f:=fm.cs) (c0:=λx=>I J x.a) (c1:=λx=>I J x.b) (λ_=>rfl) k hk';have ET:=H (Lx hk');have EL:=uo (L.take k) [];rw[aK] at EL;have EL2:(kZ (L.take k)).length<=2*10000:=by unfold kZ;simp at EL;omega
   generalize L[k]=x at*;obtain⟨ak,hE⟩:=fe (kZ (L.take k));rw[<-hE] at ho ET EL2;have P2:=H (λW (u:Value) (hu:Rw zU 3 1 W 0 u (je x.a z ak))=>Dm _ x.b u 0 W hu (by have:=tU x.a ak z;omega));obtain⟨A2,c2,rfl,_,_⟩:=ho.form;obtain⟨P1,HBk⟩:=eN (λW (hW:Bl wr W)=>Dm ak x.a _ 0 W (ho.bl hW) om) hb;obtain⟨i1,i2⟩:=ln (k:=k) (m:=m) om;have hb0:=br wr;clear ho hE
   go_upto_region 5 with fail
   refine jI (T:=Bl wr) (S:=Bl wr) [] (Bl.dr Bl.eH) (Bl.dr Bl.eH) λhT0 hS0=>?_
   try dsimp only at hT0 hS0
   refine aaa [0,1,2,3,4] ?_;refine td 5 ?_;refine aaa [7,8,9,10] ?_;refine td 11 ?_;refine eK 6 λKQ hK=>?_;go_simp
   (go_at_call 69;refine aaj (P1 _ hS0) λv7 w7 hr7 hb7=>?_)
   replace hr7:=hr7.iD;have hS1:=hS0.ca hb7;obtain⟨A7,c7,rfl,_,_⟩:=hr7.form;have hT2:=hS1;have hS2:=hT2;refine kq hK ?_;refine eK 12 λKQ hK=>?_;go_simp
   (go_at_call 69;refine aaj (P2 _ _ hr7) λv8 w8 hr8 hb8=>?_)
   obtain⟨A8,c8,rfl,_,_⟩:=hr8.form;have hT3:=hS2.ca hb8;have hS3:=hT3;refine kq hK ?_;refine qd 13 ?_;refine iU ?_;have hL:=hS3
   go_wp2_with fail
   exact⟨⟨k+1,hlt,eB,by rw[ET.out];exact fa hr8 (aD _),HBk.ca hL⟩,eE⟩
  ·exact rK
theorem Px {L:List fm}{t:Int}(hk:k<L.length):fY (L.drop k) t=(decide (L[k].a<=t/\t<L[k].b)||fY (L.drop (k+1)) t):=by
 rw[aR hk];rfl
theorem NF (L)(t:Int)(v)(b:Nat)(w)(h:Rw fm.cs 68 2 w b v L):
 aai 46 #[v,I J t] w (.bool (fY L t)):=by
 obtain⟨A,cap,rfl,hnc,hcap⟩:=h.form;have HR:=H h;obtain⟨m,hm,HM⟩:=nh L.length;rw[<-hm] at hnc ⊢;obtain⟨ah,hH,HH⟩:=nh (fY L t);rw[<-hH];clear h hm hH
 go_enter func46,ntmps46
 go_wp2_with fail
 go_loop [5] (λi=>∃ k:Nat,k<=m/\i= I J k/\Hid (ah=fY (L.drop k) t)) (λi=>m - (intOf i).toNat)
 case atStart=>exact⟨0,aD _,D,H (by rw[HH.out];rfl)⟩
 case round=>
  obtain⟨k,hk,rfl,hd⟩:=hrel;by_cases hlt:k<m
  ·have hk':k<L.length:=by rw[<-HM.out];exact hlt
   obtain⟨g,rfl,_,_,c0,c1⟩:=HR.Cm (f:=fm.cs) (c0:=λx=>I J x.a) (c1:=λx=>I J x.b) (λ_=>rfl) k hk';obtain⟨c0,c1⟩:=xV c0 c1 w Bl.eH;obtain⟨i1,i2⟩:=ln (k:=k) (m:=m) om;have HD:=H (Px (t:=t) hk');generalize L[k]=x at*;by_cases h1:x.a<=t
   ·by_cases h2:t<x.b
    ·have HQ:=H (show ah=Q by rw[hd.out,HD.out,aF ⟨h1,h2⟩];rfl);exact ku
    ·have HQ:=H (show ah=fY (L.drop (k+1)) t by rw[hd.out,HD.out,aC (λhh=>h2 hh.2)];rfl);exact nW
   ·have HQ:=H (show ah=fY (L.drop (k+1)) t by rw[hd.out,HD.out,aC (λhh=>h1 hh.1)];rfl);exact nW
  ·have i1:¬(k:Int)<m:=om;have HQ:=H (show ah=z by rw[hd.out,bR iF];rfl);exact ku
theorem rV {α:Type}(p:α->Bool){L:List α}(hk:k<L.length):(L.take (k+1)).filter p=(L.take k).filter p++(if p L[k]=Q then [L[k]] else []):=by
 rw[aL hk,bF]
 congr 1
 by_cases h:p L[k]=Q
 ·rw[bS h,aA h];rfl
 ·rw[bQ h,az h];rfl
theorem mR {α:Type}(p:α->Bool)(L:List α)(k:Nat):((L.take k).filter p).length<=k:=
 aH (bp _ _) (by rw[aK];exact dM _ _)
theorem Nx (L)(u:ay)(v)(b:Nat)(w)(h:Rw Sub.cs 196 4 w b v L)(hn:L.length<=90000):
 Calls prog 66 #[v,C u] w λe w'=>∃ v',e= .returned v'/\Rw Sub.cs 196 4 w' 0 v' (L.filter λx=>decide (x.w≠u/\x.u≠u))/\Bl w w':=by
 obtain⟨A,cap,rfl,hnc,hcap⟩:=h.form;have HR:=H h;obtain⟨m,hm,HM⟩:=nh L.length;rw[<-hm] at hnc hn ⊢;obtain⟨p,hp⟩:=fe (λx:Sub=>decide (x.w≠u/\x.u≠u));rw[<-hp];have HP:=H (λx:Sub=>show p x=decide (x.w≠u/\x.u≠u) by rw[hp]);clear h hm hp
 go_enter func66,ntmps66
 go_wp2_with fail
 go_loopw [6,5] (λi o wr=>∃ k:Nat,k<=m/\i= I J k/\Rw Sub.cs 196 4 wr w.heap.size o ((L.take k).filter p)/\Bl w wr) (λi _ _=>m - (intOf i).toNat)
 case atStart=>exact⟨0,aD _,D,Rw.nil,Bl.eH⟩
 case round=>
  obtain⟨k,hk,rfl,ho,hb⟩:=hrel;by_cases hlt:k<m
  ·have hk':k<L.length:=by rw[<-HM.out];exact hlt
   obtain⟨g,rfl,_,_,c0,c1,c2,c3⟩:=(HR.bl hb).vW (f:=Sub.cs) (c0:=λx=>C x.w) (c1:=λx=>C x.u) (c2:=λx=>I J x.a) (c3:=λx=>I J x.b) (λ_=>rfl) k hk';have FT:=H (rV p hk');have hlen:=mR p L k;generalize L[k]=x at*;obtain⟨i1,i2⟩:=ln (k:=k) (m:=m) om;obtain⟨HBk,HO⟩:=eN hb ho;have hb0:=br wr;obtain⟨c0,c1,c2,c3⟩:=uW c0 c1 c2 c3 wr hb0;have E1:(x.w.toList==u.toList)=decide (x.w=u):=gS;have E2:(x.u.toList==u.toList)=decide (x.u=u):=gS;have PX:=HP x;clear ho;by_cases h1:x.w=u
   ·exact qT
   ·rw[aC h1] at E1;by_cases h2:x.u=u
    ·rw[aF h2] at E2;have FN:=H (show(L.take (k+1)).filter p=(L.take k).filter p by rw[FT.out,PX,az (by simp[h2]),aY]);clear h1 h2 PX
     go_wp2_with fail
     exact⟨⟨k+1,hlt,eB,by rw[FN.out];exact HO,HBk⟩,eE⟩
    ·rw[aC h2] at E2;have FN:=H (show(L.take (k+1)).filter p=(L.take k).filter p++[x] by rw[FT.out,PX,aA (by simp[h1,h2])]);clear h1 h2 PX
     go_wp2_with (at_builtin;refine fH oQ D _ _ D w.heap.size D (HO.bl (gl _ _)) D (eL _ _) (y:=x) D D (sub_one _) om (HBk.al _).size ?_;intro v7 w7 ho7 hb7)
     exact⟨⟨k+1,hlt,eB,by rw[FN.out];exact ho7,hb7 w D (HBk.al _)⟩,eE⟩
  ·exact qW
theorem NH (L)(u:ay)(v)(b:Nat)(w)(h:Rw fl.cs 189 4 w b v L)(hn:L.length<=90000):
 Calls prog 65 #[v,C u] w λe w'=>∃ v',e= .returned v'/\Rw fl.cs 189 4 w' 0 v' (L.filter λx=>decide (x.u≠u))/\Bl w w':=by
 obtain⟨A,cap,rfl,hnc,hcap⟩:=h.form;have HR:=H h;obtain⟨m,hm,HM⟩:=nh L.length;rw[<-hm] at hnc hn ⊢;obtain⟨p,hp⟩:=fe (λx:fl=>decide (x.u≠u));rw[<-hp];have HP:=H (λx:fl=>show p x=decide (x.u≠u) by rw[hp]);clear h hm hp
 go_enter func65,ntmps65
 go_wp2_with fail
 go_loopw [6,5] (λi o wr=>∃ k:Nat,k<=m/\i= I J k/\Rw fl.cs 189 4 wr w.heap.size o ((L.take k).filter p)/\Bl w wr) (λi _ _=>m - (intOf i).toNat)
 case atStart=>exact⟨0,aD _,D,Rw.nil,Bl.eH⟩
 case round=>
  obtain⟨k,hk,rfl,ho,hb⟩:=hrel;by_cases hlt:k<m
  ·have hk':k<L.length:=by rw[<-HM.out];exact hlt
   obtain⟨g,rfl,_,_,c0,c1,c2,c3⟩:=(HR.bl hb).vW (f:=fl.cs) (c0:=λx=>I J x.n) (c1:=λx=>C x.u) (c2:=λx=>I J x.st) (c3:=λx=>I J x.a) (λ_=>rfl) k hk';have FT:=H (rV p hk');have hlen:=mR p L k;generalize L[k]=x at*;obtain⟨i1,i2⟩:=ln (k:=k) (m:=m) om;obtain⟨HBk,HO⟩:=eN hb ho;have hb0:=br wr;obtain⟨c0,c1,c2,c3⟩:=uW c0 c1 c2 c3 wr hb0;have E1:(x.u.toList==u.toList)=decide (x.u=u):=gS;have PX:=HP x;clear ho;by_cases h1:x.u=u
   ·exact qT
   ·rw[aC h1] at E1;have FN:=H (show(L.take (k+1)).filter p=(L.take k).filter p++[x] by rw[FT.out,PX,aA (by simp[h1])]);clear h1 PX
    go_wp2_with (at_builtin;refine fH oR D _ _ D w.heap.size D (HO.bl (gl _ _)) D (eL _ _) (y:=x) D D (kL _) om (HBk.al _).size ?_;intro v7 w7 ho7 hb7)
    exact⟨⟨k+1,hlt,eB,by rw[FN.out];exact ho7,hb7 w D (HBk.al _)⟩,eE⟩
  ·exact qW
theorem Lz {α:Type}{L M:List α}(hL:k<L.length)(hM:k<M.length)(h:L.take k=M.take k)(e:L[k]=M[k]):L.take (k+1)=M.take (k+1):=by
 rw[aL hL,aL hM,h,e]
theorem RJ (x y:eP){β:Type}(f:Bool->β):(if x.a=y.a then if x.b=y.b then if x.n=y.n then if x.st=y.st then f z else f Q else f Q else f Q else f Q)=f (!decide (x=y)):=by
 obtain⟨a,b,c,d⟩:=x;obtain⟨a',b',c',d'⟩:=y;simp only[eP.mk.injEq];by_cases h1:a=a'
 ·by_cases h2:b=b'
  ·by_cases h3:c=c'
   ·by_cases h4:d=d'
    all_goals
     simp[h1,h2,h3,h4]
   ·simp[h1,h2,h3]
  ·simp[h1,h2]
 ·simp[h1]
theorem Xx {b:ay}:a.toList=b.toList↔a=b:=by
 refine⟨λh=>Classical.byContradiction λhn=>?_,λh=>by rw[h]⟩;have h1:=Ej hn;rw[h] at h1;simp at h1
theorem Xk (x y:Ev){β:Type}(f:Bool->β):(if x.kind=y.kind then if x.time=y.time then if x.user.toList=y.user.toList then if x.other.toList=y.other.toList then if x.n=y.n then if x.st=y.st then f z else f Q else f Q else f Q else f Q else f Q else f Q)=f (!decide (x=y)):=by
 obtain⟨a,b,c,d,p,q⟩:=x;obtain⟨a',b',c',d',p',q'⟩:=y;simp only[Ev.mk.injEq,Xx];by_cases h1:a=a'
 ·by_cases h2:b=b'
  ·by_cases h3:c=c'
   ·by_cases h4:d=d'
    ·by_cases h5:p=p'
     ·by_cases h6:q=q'
      all_goals
       simp[h1,h2,h3,h4,h5,h6]
     ·simp[h1,h2,h3,h4,h5]
    ·simp[h1,h2,h3,h4]
   ·simp[h1,h2,h3]
  ·simp[h1,h2]
 ·simp[h1]
theorem Rw.FK{L}{A}(h:Rw Ev.cs t 6 V b (Z A n cap) L)(k:Nat)(hk:k<L.length):
 ∃ g,A=G ⟨g,0,E⟩/\b<=g/\g<V.heap.size/\(∀ W,Bl V W->W.cell? ⟨g,k*6,E⟩=G (I J L[k].kind))/\(∀ W,Bl V W->W.cell? ⟨g,k*6+1,E⟩=G (I J L[k].time))/\(∀ W,Bl V W->W.cell? ⟨g,k*6+2,E⟩=G (C L[k].user))/\(∀ W,Bl V W->W.cell? ⟨g,k*6+3,E⟩=G (C L[k].other))/\(∀ W,Bl V W->W.cell? ⟨g,k*6+4,E⟩=G (I J L[k].n))/\(∀ W,Bl V W->W.cell? ⟨g,k*6+5,E⟩=G (I J L[k].st)):=by
 obtain⟨g,hA,hb,hg,hc⟩:=Rw.at (f:=Ev.cs) (λ_=>rfl) h k hk;exact⟨g,hA,hb,hg,λW hW=>hW.ce (hc 0 dc),λW hW=>hW.ce (hc 1 dc),λW hW=>hW.ce (hc 2 dc),λW hW=>hW.ce (hc 3 dc),λW hW=>hW.ce (hc 4 dc),λW hW=>hW.ce (hc 5 dc)⟩
theorem Vd:(∀ (L M:List eP) (v u:Value) (b b':Nat) (w:World) (h:Rw eP.cs 58 4 w b v L) (h':Rw eP.cs 58 4 w b' u M),aai 10 #[v,u] w (.bool (decide (L=M))))/\
 (∀ (L M:List Ev) (v u:Value) (b b':Nat) (w:World) (h:Rw Ev.cs 26 6 w b v L) (h':Rw Ev.cs 26 6 w b' u M),aai 7 #[v,u] w (.bool (decide (L=M)))):=by
 refine⟨?_,?_⟩
 all_goals intro L M v u b b' w h h'
 have tg:Tg 0:=⟨⟩;rotate_left;have tg:Tg 1:=⟨⟩;rotate_left
 all_goals
  obtain⟨A,cap,rfl,hnc,hcap⟩:=h.form;obtain⟨A2,cap2,rfl,hnc2,hcap2⟩:=h'.form;obtain⟨HR,HR2⟩:=eN h h';obtain⟨m,hm,HM⟩:=nh L.length;obtain⟨n,hn,HN⟩:=nh M.length;rw[<-hm] at hnc ⊢;rw[<-hn] at hnc2 ⊢;clear h h' hm hn;by_cases hmn:m=n
  ·subst hmn
   first
    | have _:Tg 1:=tg
      go_enter func7,ntmps7
    | go_enter func10,ntmps10
   go_wp2_with fail
   go_loopw [5] (λi wr=>∃ k:Nat,k<=m/\i= I J k/\Hid (L.take k=M.take k)/\Bl w wr) (λi _=>m - (intOf i).toNat)
   case atStart=>exact⟨0,aD _,D,H D,Bl.eH⟩
   case round=>
    obtain⟨k,hk,rfl,hT,hb⟩:=hrel;by_cases hlt:k<m
    ·have hk':k<L.length:=by rw[<-HM.out];exact hlt
     have hk2:k<M.length:=by rw[<-HN.out];exact hlt
     first
      | have _:Tg 1:=tg
        obtain⟨g,rfl,_,_,c0,c1,c2,c3,c4,c5⟩:=HR.FK k hk';obtain⟨g2,rfl,_,_,d0,d1,d2,d3,d4,d5⟩:=HR2.FK k hk2
      | obtain⟨g,rfl,_,_,c0,c1,c2,c3⟩:=HR.vW (f:=eP.cs) (c0:=λx=>I J x.a) (c1:=λx=>I J x.b) (c2:=λx=>I J x.n) (c3:=λx=>I J x.st) (λ_=>rfl) k hk'
        obtain⟨g2,rfl,_,_,d0,d1,d2,d3⟩:=HR2.vW (f:=eP.cs) (c0:=λx=>I J x.a) (c1:=λx=>I J x.b) (c2:=λx=>I J x.n) (c3:=λx=>I J x.st) (λ_=>rfl) k hk2
     obtain⟨TS,NE⟩:=eN (Lz hk' hk2 hT) (show L[k]≠M[k]->L≠M from λhne e=>hne (by subst e;rfl));generalize L[k]=x at*;generalize M[k]=y at*;obtain⟨i1,i2⟩:=ln (k:=k) (m:=m) om;obtain⟨aq,hD⟩:∃ aq:Bool,aq= !decide (x=y):=⟨_,D⟩;have HD:=H hD;clear hD
     go_upto_region 6 with fail
     refine jI (T:=Bl w) (S:=Bl w) [] hb.dr hb.dr λhT0 hS0=>?_
     try dsimp only at hT0 hS0
     refine aaa [0,1,2] ?_;refine td 3 ?_;refine aaa [4,5,6] ?_;refine td 7 ?_;refine lJ (i:=8) (v:=.bool aq) D kr kr kr (λ_ _ _ h=>h) kr (aG ⟨by rfl,?_⟩) ⟨hT0,λ_=>hS0⟩ ?_
     ·intro wx hSx;go_simp
      first
       | have _:Tg 1:=tg
         rw[HD.out];exact Xk x y (λb=>Result.ok (Next.value (Value.bool b)) wx)
       | rw[HD.out];exact RJ x y (λb=>Result.ok (Next.value (Value.bool b)) wx)
     try simp only[gz,fI]
     refine iU ?_;have hT:=H hT0;have HT2:=H hT;cases aq
     ·have TS2:=H (TS (by have h1:=HD.out;simpa using h1))
      go_wp2_with fail
      exact⟨⟨k+1,om,eB,TS2,HT2⟩,eE⟩
     ·have HQ:=H (NE (by have h1:=HD.out;simpa using h1))
      go_wp2_with fail
      go_ret;exact⟨by rw[aC HQ.out];rfl,HT2⟩
    ·have ek:k=m:=om;have i1:¬(k:Int)<m:=om;obtain⟨HQ,HBk⟩:=eN (show L=M by have h1:=hT.out;rw[ek] at h1;rwa[HM.out,aT,<-HM.out,HN.out,aT] at h1) hb
     go_wp2_with fail
     go_ret;exact⟨by rw[HQ.out];simp,HBk⟩
  ·have HQ:=H (show L≠M from λe=>hmn (by rw[HM.out,HN.out,e]));have e1:((m:Int) != (n:Int))=Q:=by simp;omega
   first
    | have _:Tg 1:=tg
      go_enter func7,ntmps7
    | go_enter func10,ntmps10
   go_wp2_with fail
   go_ret;exact⟨by rw[aC HQ.out];rfl,Bl.eH⟩
