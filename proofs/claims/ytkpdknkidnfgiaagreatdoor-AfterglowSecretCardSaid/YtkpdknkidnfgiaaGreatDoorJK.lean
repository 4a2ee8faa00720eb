/- Lemmas for AfterglowSecret: what functions of the program return; no condition. -/
import Derived.Test.YtkpdknkidnfgiaaGreatDoorJJ
import Derived.Test.YtkpdknkidnfgiaaGreatDoorQB
set_option maxHeartbeats 0
set_option maxRecDepth 100000
set_option linter.unusedVariables false
open Go.Value renaming int->I,string->C,slice->Z
open Go.IntKind renaming i64->J,u8->U
open Option renaming none->E,some->G
open Bool renaming true->Q,false->z
open Go.Lib renaming hid->H
open Go.Proofs.Tryz
namespace Go.Proofs.YtkpdknkidnfgiaaGreatDoor
theorem lT{p:Prop}(h:p:=by
 simp only[Array.size_append,Array.size_empty,size_zeroCells,h3];omega):p:=h
theorem jl{p:Prop}(h:p:=by
 go_wp2
 go_loop [8] (λi=>i= I J 0) (λi=>0)
 case atStart=>rfl
 case round=>
  subst hrel
  go_wp2
  go_ret;exact⟨D,Bl.eH⟩):p:=h
theorem nR{p:Prop}(h:p:=by
 intro j hj i u hu;obtain⟨g2,hA,_,_,hc⟩:=h.at hf j hj;injection hA with hA
 injection hA with hA
 subst hA;rw[ab0 L j hj] at hu;have hi:i<4:=by
  rw[<-hf L[j]];exact(ab4.1 hu).1
 rw[aZ,hc i hi,hu]):p:=h
theorem jA{p:Prop}(h:p:=by
 rintro e w' ⟨rfl,hb⟩;exact⟨by rw[aT,W8],hb⟩):p:=h
theorem od{p:Prop}(h:p:=by
 intro j hj i u hu;obtain⟨g2,hA,_,_,hc⟩:=h.at hf j hj;injection hA with hA
 injection hA with hA
 subst hA;rw[ab0 L j hj] at hu;have hi:i<2:=by
  rw[<-hf L[j]];exact(ab4.1 hu).1
 rw[aZ,hc i hi,hu]):p:=h
theorem js{p:Prop}(h:p:=by
 intro j u hu;have:=hs.ce _ D j u hu
 rwa[show(⟨g0,0,E⟩:Addr).add j=⟨g0,j,E⟩ by unfold Addr.add;split<;>simp_all,<-aZ j] at this):p:=h
theorem jw{p:Prop}(h:p:=by
 rintro e w' ⟨rfl,rfl⟩;exact⟨_,D,Rw.nil,Bl.eH⟩):p:=h
theorem jz{p:Prop}(h:p:=by
 rintro e w' ⟨v',rfl,k1,_,k2⟩;exact⟨v',D,k1,k2⟩):p:=h
variable {lb:Array Value} {x0 x1 x2:List Value} {B b bytes g n0 sz:Nat} {t:TypeId} {au:Value} {W:World}
namespace Tp
open Go Go.RowKit
theorem fz {e:Nat}(h:(prog.info? e).map (λi=>(i.zero,i.size,i.bytes))=G (G au,sz,bytes))(hz:au.cells.size=sz):∃ i au,prog.info? e=G i/\i.zero=G au/\i.size=sz/\i.bytes=bytes/\au.cells.size=sz:=by
 cases hi:prog.info? e with
 | none=>rw[hi] at h;cases h
 | some i=>
  rw[hi] at h;injection h with h
  injection h with h1 h2
  injection h2 with h2 h3
  exact⟨i,au,D,h1,h2,h3,hz⟩
structure Sx where
 A:Option Addr
 n:Nat
 c:Nat
 xs:List Value
def Sx.v (s:Sx):Value:=Z s.A s.n s.c
def Sx.ok (w:World)(sz:Nat)(s:Sx):Prop:=Sl w sz s.A s.n s.c s.xs
def gd (l:List Sx):Nat:=(l.map (·.n)).sum
theorem CY (l:List Sx)(k:Nat)(h:k<l.length):gd (l.take (k+1))=gd (l.take k)+l[k].n/\(l.take (k+1)).flatMap (·.xs)=(l.take k).flatMap (·.xs)++l[k].xs:=by
 unfold gd;rw[aL h];simp only[cz,List.sum_append,bB,bC,dP,List.sum_cons,List.sum_nil,dA,bh,List.flatMap_nil,aY,and_self]
theorem si:∀ (l:List Sx) (k:Nat),gd (l.take k)<=gd l
 | [],k=>by simp[gd]
 | x::r,0=>by simp[gd]
 | x::r,k+1=>by have:=si r k;simp[gd] at this ⊢;omega
theorem KP:(prog.info? 112).map (λi=>(i.zero,i.size,i.bytes))=G (G (.agg #[av,av,av,av]),4,32):=kr
theorem uL:Ty 84 112 4 32:=⟨underlying84,fz KP D,dc,dc⟩
theorem PB (n:Nat)(w)(hn:n<=1000000):Calls prog 321 #[aw,I J n] w λe w'=>∃ v,e= .returned v/\w'.ownsRow w.heap.size 112 4 v 0 []/\Bl w w':=by
 obtain⟨i,au,hi,hz,h1,h2,h3⟩:=uL.i;by_cases h0:n=0
 ·subst h0;exact(Any8.slices_Grow_room Tryz.grwStay E 0 0 0 w om om om om).mono λe w' ⟨h,hw⟩=>⟨_,h,ab6 _ _ _ _,by rw[hw];exact Bl.eH⟩
 ·refine(Any8.slices_Grow_grow Tryz.grwStay i au hi hz om E 0 0 n [] w om om (by rw[h2];omega) om sm (λ_=>rfl) (λa ha=>fX)).mono λe w' ⟨h,hw⟩=>⟨_,h,?_,lR⟩;rw[hw];refine World.ownsRow_made w.drew _ _ (aB _) (grownCap_le_maxLen _ _ _ _ eQ) ?_;have hc:=grownCap_ge w (0+n) 0 (Tryz.grwStay_ren.t 25);exact lT
theorem KT:(prog.info? 289).map (λi=>(i.zero,i.size,i.bytes))=G (G (.agg #[av,ax,av,av]),4,40):=kr
theorem F6:Ty 126 289 4 40:=⟨underlying126,fz KT D,dc,dc⟩
theorem PF (n:Nat)(w)(hn:n<=1000000):Calls prog 357 #[aw,I J n] w λe w'=>∃ v,e= .returned v/\w'.ownsRow w.heap.size 289 4 v 0 []/\Bl w w':=by
 obtain⟨i,au,hi,hz,h1,h2,h3⟩:=F6.i;by_cases h0:n=0
 ·subst h0;exact(Any8.slices_Grow_room Tryz.grwSess E 0 0 0 w om om om om).mono λe w' ⟨h,hw⟩=>⟨_,h,ab6 _ _ _ _,by rw[hw];exact Bl.eH⟩
 ·refine(Any8.slices_Grow_grow Tryz.grwSess i au hi hz om E 0 0 n [] w om om (by rw[h2];omega) om sm (λ_=>rfl) (λa ha=>fX)).mono λe w' ⟨h,hw⟩=>⟨_,h,?_,lR⟩;rw[hw];refine World.ownsRow_made w.drew _ _ (aB _) (grownCap_le_maxLen _ _ _ _ eQ) ?_;have hc:=grownCap_ge w (0+n) 0 (Tryz.grwSess_ren.t 25);exact lT
theorem KM:(prog.info? 282).map (λi=>(i.zero,i.size,i.bytes))=G (G (.agg #[ax,aw]),2,40):=kr
theorem F4:Ty 127 282 2 40:=⟨underlying127,fz KM D,dc,dc⟩
theorem Py (n:Nat)(w)(hn:n<=1000000):Calls prog 358 #[aw,I J n] w λe w'=>∃ v,e= .returned v/\w'.ownsRow w.heap.size 282 2 v 0 []/\Bl w w':=by
 obtain⟨i,au,hi,hz,h1,h2,h3⟩:=F4.i;by_cases h0:n=0
 ·subst h0;exact(Any8.slices_Grow_room Tryz.grwUser E 0 0 0 w om om om om).mono λe w' ⟨h,hw⟩=>⟨_,h,ab6 _ _ _ _,by rw[hw];exact Bl.eH⟩
 ·refine(Any8.slices_Grow_grow Tryz.grwUser i au hi hz om E 0 0 n [] w om om (by rw[h2];omega) om sm (λ_=>rfl) (λa ha=>fX)).mono λe w' ⟨h,hw⟩=>⟨_,h,?_,lR⟩;rw[hw];refine World.ownsRow_made w.drew _ _ (aB _) (grownCap_le_maxLen _ _ _ _ eQ) ?_;have hc:=grownCap_ge w (0+n) 0 (Tryz.grwUser_ren.t 25);exact lT
theorem KO:(prog.info? 293).map (λi=>(i.zero,i.size,i.bytes))=G (G (.agg #[ax,ax,av,av]),4,48):=kr
theorem AI:Ty 128 293 4 48:=⟨underlying128,fz KO D,dc,dc⟩
theorem Pz (n:Nat)(w)(hn:n<=1000000):Calls prog 377 #[aw,I J n] w λe w'=>∃ v,e= .returned v/\w'.ownsRow w.heap.size 293 4 v 0 []/\Bl w w':=by
 obtain⟨i,au,hi,hz,h1,h2,h3⟩:=AI.i;by_cases h0:n=0
 ·subst h0;exact(Any8.slices_Grow_room Tryz.grwSubs E 0 0 0 w om om om om).mono λe w' ⟨h,hw⟩=>⟨_,h,ab6 _ _ _ _,by rw[hw];exact Bl.eH⟩
 ·refine(Any8.slices_Grow_grow Tryz.grwSubs i au hi hz om E 0 0 n [] w om om (by rw[h2];omega) om sm (λ_=>rfl) (λa ha=>fX)).mono λe w' ⟨h,hw⟩=>⟨_,h,?_,lR⟩;rw[hw];refine World.ownsRow_made w.drew _ _ (aB _) (grownCap_le_maxLen _ _ _ _ eQ) ?_;have hc:=grownCap_ge w (0+n) 0 (Tryz.grwSubs_ren.t 25);exact lT
theorem Eh:(∀ (ss:List Sx) (B:Nat) (w:World) (hm:ss.length<=100) (hB:∀ k (hk:k<ss.length),w.cell? ⟨B,k,E⟩=G ss[k].v) (hS:∀ s∈ss,s.ok w 4) (ht:gd ss<=1000000),Calls prog 258 #[Z (G ⟨B,0,E⟩) ss.length ss.length] w λe w'=>∃ v,e= .returned v/\w'.ownsRow w.heap.size 112 4 v (gd ss) (ss.flatMap (·.xs))/\Bl w w')/\
 (∀ (ss:List Sx) (B:Nat) (w:World) (hm:ss.length<=100) (hB:∀ k (hk:k<ss.length),w.cell? ⟨B,k,E⟩=G ss[k].v) (hS:∀ s∈ss,s.ok w 4) (ht:gd ss<=1000000),Calls prog 301 #[Z (G ⟨B,0,E⟩) ss.length ss.length] w λe w'=>∃ v,e= .returned v/\w'.ownsRow w.heap.size 289 4 v (gd ss) (ss.flatMap (·.xs))/\Bl w w')/\
 (∀ (ss:List Sx) (B:Nat) (w:World) (hm:ss.length<=100) (hB:∀ k (hk:k<ss.length),w.cell? ⟨B,k,E⟩=G ss[k].v) (hS:∀ s∈ss,s.ok w 2) (ht:gd ss<=1000000),Calls prog 302 #[Z (G ⟨B,0,E⟩) ss.length ss.length] w λe w'=>∃ v,e= .returned v/\w'.ownsRow w.heap.size 282 2 v (gd ss) (ss.flatMap (·.xs))/\Bl w w')/\
 (∀ (ss:List Sx) (B:Nat) (w:World) (hm:ss.length<=100) (hB:∀ k (hk:k<ss.length),w.cell? ⟨B,k,E⟩=G ss[k].v) (hS:∀ s∈ss,s.ok w 4) (ht:gd ss<=1000000),Calls prog 328 #[Z (G ⟨B,0,E⟩) ss.length ss.length] w λe w'=>∃ v,e= .returned v/\w'.ownsRow w.heap.size 293 4 v (gd ss) (ss.flatMap (·.xs))/\Bl w w'):=by
 refine⟨?_,?_,?_,?_⟩
 all_goals intro ss B w hm hB hS ht
 have tg:Tg 0:=⟨⟩;rotate_left;have tg:Tg 1:=⟨⟩;rotate_left;have tg:Tg 2:=⟨⟩;rotate_left;have tg:Tg 3:=⟨⟩;rotate_left
 all_goals
  obtain⟨m,hmm,HM⟩:=nh ss.length;rw[<-hmm] at hm ⊢;obtain⟨HB,HS,HT⟩:=gi hB hS ht;obtain⟨N,hN⟩:=fe (gd ss);rw[<-hN] at ht ⊢;replace hN:=H hN;obtain⟨X,hX⟩:=fe (ss.flatMap (·.xs));rw[<-hX];replace hX:=H hX;clear hmm hB
 focus
  go_enter func258,ntmps258
 rotate_left
 focus
  go_enter func301,ntmps301
 rotate_left
 focus
  go_enter func302,ntmps302
 rotate_left
 focus
  go_enter func328,ntmps328
 rotate_left
 all_goals
  go_wp2
  go_loop [3,11] (λs i=>∃ k:Nat,k<=m/\i= I J k/\s= I J (gd (ss.take k):Nat)) (λ_ i=>m - (intOf i).toNat)
  case atStart=>exact⟨0,aD _,D,D⟩
  case round=>
   obtain⟨k,hk,rfl,rfl⟩:=hrel;have hle:=si ss k;rw[<-hN.out] at hle;by_cases hlt:k<m
   ·have hk':k<ss.length:=by rw[<-HM.out];exact hlt
    have c0:=HB k hk';have TS:=H (CY ss k hk').1;have hle':=si ss (k+1);rw[TS.out,<-hN.out] at hle';have HX:=H TS;generalize hx:ss[k]=x at c0 hle' HX;clear hx;generalize gd (ss.take k)=a at*;obtain⟨A,n,c,xs⟩:=x;simp only[Sx.v] at c0 hle' HX;obtain⟨i1,i2⟩:=ln (k:=k) (m:=m) om;have i3:¬((a:Int)+(n:Int)<0):=om
    go_wp2
    go_round
    case rel=>exact⟨k+1,om,by go_num,by rw[HX.out];go_num⟩
    case measure=>simp[intOf];omega
   ·obtain rfl:k=m:=om;have HE:=H (show gd (ss.take k)=N by rw[hN.out,bz iF]);rw[HE.out];clear hle;have i1:¬(k:Int)<k:=om
    first
     | have _:Tg 1:=tg
       go_wp2_with (go_at_call 357;refine aaj (PF N w ht) λv1 w1 ho1 hb1=>?_)
     | have _:Tg 2:=tg
       go_wp2_with (go_at_call 358;refine aaj (Py N w ht) λv1 w1 ho1 hb1=>?_)
     | have _:Tg 3:=tg
       go_wp2_with (go_at_call 377;refine aaj (Pz N w ht) λv1 w1 ho1 hb1=>?_)
     | go_wp2_with (go_at_call 321;refine aaj (PB N w ht) λv1 w1 ho1 hb1=>?_)
    obtain⟨HO,HB1⟩:=eN ho1 hb1
    first
     | have _:Tg 1:=tg
       go_loopw [6,27] (λv i wr=>∃ j:Nat,j<=k/\i= I J j/\wr.ownsRow w.heap.size 289 4 v (gd (ss.take j)) ((ss.take j).flatMap (·.xs))/\Bl w wr) (λ_ i _=>k - (intOf i).toNat)
     | have _:Tg 2:=tg
       go_loopw [6,27] (λv i wr=>∃ j:Nat,j<=k/\i= I J j/\wr.ownsRow w.heap.size 282 2 v (gd (ss.take j)) ((ss.take j).flatMap (·.xs))/\Bl w wr) (λ_ i _=>k - (intOf i).toNat)
     | have _:Tg 3:=tg
       go_loopw [6,27] (λv i wr=>∃ j:Nat,j<=k/\i= I J j/\wr.ownsRow w.heap.size 293 4 v (gd (ss.take j)) ((ss.take j).flatMap (·.xs))/\Bl w wr) (λ_ i _=>k - (intOf i).toNat)
     | go_loopw [6,27] (λv i wr=>∃ j:Nat,j<=k/\i= I J j/\wr.ownsRow w.heap.size 112 4 v (gd (ss.take j)) ((ss.take j).flatMap (·.xs))/\Bl w wr) (λ_ i _=>k - (intOf i).toNat)
    case atStart=>exact⟨0,aD _,D,HO,HB1⟩
    case round=>
     obtain⟨j,hj,rfl,ho,hb⟩:=hrel;by_cases hlt:j<k
     ·have hk':j<ss.length:=by rw[<-HM.out];exact hlt
      have c0:=hb.ce (HB j hk');have TS:=CY ss j hk';have hle':=si ss (j+1);rw[TS.1,<-hN.out] at hle';have SX:=H ((HS _ (aV hk')).bl hb);replace TS:=H TS;generalize hx:ss[j]=x at c0 hle' TS SX;clear hx;obtain⟨A,n,c,xs⟩:=x;simp only[Sx.v] at c0 hle' TS SX;obtain⟨HB2,HO2⟩:=eN hb ho;clear ho;obtain⟨i1,i2⟩:=ln (k:=j) (m:=k) om
      first
       | have _:Tg 1:=tg
         go_wp2_with (at_builtin;refine uz F6 D _ _ D w.heap.size D HO2 D SX om HB2.size ?_;intro v' w' hown' hbl';obtain⟨HBL,HOW⟩:=eN (hbl' w D HB2) hown';clear hbl' hown')
       | have _:Tg 2:=tg
         go_wp2_with (at_builtin;refine uz F4 D _ _ D w.heap.size D HO2 D SX om HB2.size ?_;intro v' w' hown' hbl';obtain⟨HBL,HOW⟩:=eN (hbl' w D HB2) hown';clear hbl' hown')
       | have _:Tg 3:=tg
         go_wp2_with (at_builtin;refine uz AI D _ _ D w.heap.size D HO2 D SX om HB2.size ?_;intro v' w' hown' hbl';obtain⟨HBL,HOW⟩:=eN (hbl' w D HB2) hown';clear hbl' hown')
       | go_wp2_with (at_builtin;refine uz uL D _ _ D w.heap.size D HO2 D SX om HB2.size ?_;intro v' w' hown' hbl';obtain⟨HBL,HOW⟩:=eN (hbl' w D HB2) hown';clear hbl' hown')
      go_roundw
      case rel=>exact⟨j+1,om,by go_num,by rw[TS.out.1,TS.out.2];exact HOW,HBL⟩
      case measure=>simp[intOf];omega
     ·obtain rfl:j=k:=om;have HE2:=H (show ss.take j=ss from bz iF);rw[HE2.out,<-hN.out,<-hX.out] at ho;replace ho:=H ho;replace hb:=H hb;have i1:¬(j:Int)<j:=om
      go_wp2
      go_ret;exact⟨_,D,ho,hb⟩
theorem Fo{A0 A1 A2}{n1 n2 c0 c1 c2:Nat}(h0:Sl W 4 A0 n0 c0 x0)(h1:Sl W 4 A1 n1 c1 x1)(h2:Sl W 4 A2 n2 c2 x2)
 (hB:Bk W B t #[Z A0 n0 c0,Z A1 n1 c1,Z A2 n2 c2]) (hn:n0+n1+n2<=1000000):
 Calls prog 258 #[Z (G ⟨B,0,E⟩) 3 3] W λe w'=>∃ v,e= .returned v/\w'.ownsRow W.heap.size 112 4 v (n0+n1+n2) (x0++(x1++x2))/\Bl W w':=by
 have h:=Eh.1 [⟨A0,n0,c0,x0⟩,⟨A1,n1,c1,x1⟩,⟨A2,n2,c2,x2⟩] B W sm (λk hk=>by
  rw[Bk.ce hB k,bT]
  match k,hk with
  | 0,_=>rfl
  | 1,_=>rfl
  | 2,_=>rfl) (λs hs=>by
  simp only[aE,aO,aQ] at hs;rcases hs with rfl | rfl | rfl
  ·exact h0
  ·exact h1
  ·exact h2) aaS
 simpa[gd,Nat.add_assoc] using h
theorem QL{A0 A1 A2}{n1 n2 c0 c1 c2:Nat}(h0:Sl W 4 A0 n0 c0 x0)(h1:Sl W 4 A1 n1 c1 x1)(h2:Sl W 4 A2 n2 c2 x2)
 (hB:Bk W B t #[Z A0 n0 c0,Z A1 n1 c1,Z A2 n2 c2]) (hn:n0+n1+n2<=1000000):
 Calls prog 301 #[Z (G ⟨B,0,E⟩) 3 3] W λe w'=>∃ v,e= .returned v/\w'.ownsRow W.heap.size 289 4 v (n0+n1+n2) (x0++(x1++x2))/\Bl W w':=by
 have h:=Eh.2.1 [⟨A0,n0,c0,x0⟩,⟨A1,n1,c1,x1⟩,⟨A2,n2,c2,x2⟩] B W sm (λk hk=>by
  rw[Bk.ce hB k,bT]
  match k,hk with
  | 0,_=>rfl
  | 1,_=>rfl
  | 2,_=>rfl) (λs hs=>by
  simp only[aE,aO,aQ] at hs;rcases hs with rfl | rfl | rfl
  ·exact h0
  ·exact h1
  ·exact h2) aaS
 simpa[gd,Nat.add_assoc] using h
theorem QM{A0 A1}{n1 c0 c1:Nat}(h0:Sl W 4 A0 n0 c0 x0)(h1:Sl W 4 A1 n1 c1 x1)
 (hB:Bk W B t #[Z A0 n0 c0,Z A1 n1 c1]) (hn:n0+n1<=1000000):
 Calls prog 301 #[Z (G ⟨B,0,E⟩) 2 2] W λe w'=>∃ v,e= .returned v/\w'.ownsRow W.heap.size 289 4 v (n0+n1) (x0++x1)/\Bl W w':=by
 have h:=Eh.2.1 [⟨A0,n0,c0,x0⟩,⟨A1,n1,c1,x1⟩] B W sm (λk hk=>by
  rw[Bk.ce hB k,bT]
  match k,hk with
  | 0,_=>rfl
  | 1,_=>rfl) (λs hs=>by
  simp only[aE,aO,aQ] at hs;rcases hs with rfl | rfl
  ·exact h0
  ·exact h1) aaS
 simpa[gd,Nat.add_assoc] using h
theorem QJ{A0 A1 A2}{n1 n2 c0 c1 c2:Nat}(h0:Sl W 2 A0 n0 c0 x0)(h1:Sl W 2 A1 n1 c1 x1)(h2:Sl W 2 A2 n2 c2 x2)
 (hB:Bk W B t #[Z A0 n0 c0,Z A1 n1 c1,Z A2 n2 c2]) (hn:n0+n1+n2<=1000000):
 Calls prog 302 #[Z (G ⟨B,0,E⟩) 3 3] W λe w'=>∃ v,e= .returned v/\w'.ownsRow W.heap.size 282 2 v (n0+n1+n2) (x0++(x1++x2))/\Bl W w':=by
 have h:=Eh.2.2.1 [⟨A0,n0,c0,x0⟩,⟨A1,n1,c1,x1⟩,⟨A2,n2,c2,x2⟩] B W sm (λk hk=>by
  rw[Bk.ce hB k,bT]
  match k,hk with
  | 0,_=>rfl
  | 1,_=>rfl
  | 2,_=>rfl) (λs hs=>by
  simp only[aE,aO,aQ] at hs;rcases hs with rfl | rfl | rfl
  ·exact h0
  ·exact h1
  ·exact h2) aaS
 simpa[gd,Nat.add_assoc] using h
theorem QK{A0 A1 A2}{n1 n2 c0 c1 c2:Nat}(h0:Sl W 4 A0 n0 c0 x0)(h1:Sl W 4 A1 n1 c1 x1)(h2:Sl W 4 A2 n2 c2 x2)
 (hB:Bk W B t #[Z A0 n0 c0,Z A1 n1 c1,Z A2 n2 c2]) (hn:n0+n1+n2<=1000000):
 Calls prog 328 #[Z (G ⟨B,0,E⟩) 3 3] W λe w'=>∃ v,e= .returned v/\w'.ownsRow W.heap.size 293 4 v (n0+n1+n2) (x0++(x1++x2))/\Bl W w':=by
 have h:=Eh.2.2.2 [⟨A0,n0,c0,x0⟩,⟨A1,n1,c1,x1⟩,⟨A2,n2,c2,x2⟩] B W sm (λk hk=>by
  rw[Bk.ce hB k,bT]
  match k,hk with
  | 0,_=>rfl
  | 1,_=>rfl
  | 2,_=>rfl) (λs hs=>by
  simp only[aE,aO,aQ] at hs;rcases hs with rfl | rfl | rfl
  ·exact h0
  ·exact h1
  ·exact h2) aaS
 simpa[gd,Nat.add_assoc] using h
def gU {α:Type}(p:α->Bool):List α->Nat
 | []=>0
 | x::r=>if p x then 0 else gU p r+1
def lH {α:Type}(p:α->Bool)(L:List α):Int:=if gU p L<L.length then(gU p L:Nat) else -1
theorem By {α:Type}(p:α->Bool):∀ L:List α,gU p L<=L.length
 | []=>aB _
 | x::r=>by
   unfold gU
   split
   ·exact aD _
   ·have:=By p r;simp;omega
theorem Eo {α:Type}(p:α->Bool)(d:α):∀ (L:List α) (i:Nat),Lib.idxByFrom (λ_ y=>p y) d L i=if gU p L<L.length then((i+gU p L:Nat):Int) else -1
 | [],i=>rfl
 | x::r,i=>by
   unfold Lib.idxByFrom gU;by_cases h:p x=Q
   ·simp[h]
   ·rw[az h,az h,Eo p d r (i+1)];have:=By p r;by_cases h2:gU p r<r.length
    ·rw[aA h2,aA eC];congr 1;omega
    ·rw[az h2,az eC]
theorem W8 {α:Type}(p:α->Bool)(d:α)(L:List α):Lib.idxBy (λ_ y=>p y) L d=lH p L:=by
 unfold Lib.idxBy lH;rw[Eo];simp
theorem ixfStay {α:Type}[Inhabited α]{f:α->List Value}(hf:∀ x,(f x).length=4)(p:α->Bool)(eg:∀ args w,(callFunc g args).run prog w= .ok (.enter g args) w){v:Value}{L:List α}(w:World)
 (hp:PredBelow prog g lb (λx=>.agg (f x).toArray) p w) (h:Rw f 112 4 w b v L) (hn:L.length<=100000):
 aai 206 #[v,.func (.func g) #[] lb] w (I J (lH p L)):=by
 obtain⟨A,cap,rfl,hnc,hcap⟩:=h.form;cases A with
 | none=>
  have h0:L=[]:=aa6.1 ((Rw.qE h).1);subst h0;clear h hp
  go_enter func206,ntmps206
  exact jl
 | some a=>
  rcases h.2 with⟨hv,_⟩ | ⟨g0,c0,cur,hv,hg,hh,r⟩
  ·injection hv with h1;cases h1
  ·injection hv with h1
   injection h1 with h1
   subst h1;refine(AnyQ.slices_IndexFunc Tryz.ixfStay 4 isAgg112 sizeOf112 f hf p g lb eg g0 0 L.length cap L w hp (aB _) om (aa2.1 hh).1 ?_).mono ?_
   ·exact nR
   ·exact jA
theorem ixfSess {α:Type}[Inhabited α]{f:α->List Value}(hf:∀ x,(f x).length=4)(p:α->Bool)(eg:∀ args w,(callFunc g args).run prog w= .ok (.enter g args) w){v:Value}{L:List α}(w:World)
 (hp:PredBelow prog g lb (λx=>.agg (f x).toArray) p w) (h:Rw f 289 4 w b v L) (hn:L.length<=100000):
 aai 322 #[v,.func (.func g) #[] lb] w (I J (lH p L)):=by
 obtain⟨A,cap,rfl,hnc,hcap⟩:=h.form;cases A with
 | none=>
  have h0:L=[]:=aa6.1 ((Rw.qE h).1);subst h0;clear h hp
  go_enter func322,ntmps322
  exact jl
 | some a=>
  rcases h.2 with⟨hv,_⟩ | ⟨g0,c0,cur,hv,hg,hh,r⟩
  ·injection hv with h1;cases h1
  ·injection hv with h1
   injection h1 with h1
   subst h1;refine(AnyQ.slices_IndexFunc Tryz.ixfSess 4 isAgg289 sizeOf289 f hf p g lb eg g0 0 L.length cap L w hp (aB _) om (aa2.1 hh).1 ?_).mono ?_
   ·exact nR
   ·exact jA
theorem ixfUser {α:Type}[Inhabited α]{f:α->List Value}(hf:∀ x,(f x).length=2)(p:α->Bool)(eg:∀ args w,(callFunc g args).run prog w= .ok (.enter g args) w){v:Value}{L:List α}(w:World)
 (hp:PredBelow prog g lb (λx=>.agg (f x).toArray) p w) (h:Rw f 282 2 w b v L) (hn:L.length<=100000):
 aai 383 #[v,.func (.func g) #[] lb] w (I J (lH p L)):=by
 obtain⟨A,cap,rfl,hnc,hcap⟩:=h.form;cases A with
 | none=>
  have h0:L=[]:=aa6.1 ((Rw.qE h).1);subst h0;clear h hp
  go_enter func383,ntmps383
  exact jl
 | some a=>
  rcases h.2 with⟨hv,_⟩ | ⟨g0,c0,cur,hv,hg,hh,r⟩
  ·injection hv with h1;cases h1
  ·injection hv with h1
   injection h1 with h1
   subst h1;refine(AnyQ.slices_IndexFunc Tryz.ixfUser 2 isAgg282 sizeOf282 f hf p g lb eg g0 0 L.length cap L w hp (aB _) om (aa2.1 hh).1 ?_).mono ?_
   ·exact od
   ·exact jA
theorem ixfSubs {α:Type}[Inhabited α]{f:α->List Value}(hf:∀ x,(f x).length=4)(p:α->Bool)(eg:∀ args w,(callFunc g args).run prog w= .ok (.enter g args) w){v:Value}{L:List α}(w:World)
 (hp:PredBelow prog g lb (λx=>.agg (f x).toArray) p w) (h:Rw f 293 4 w b v L) (hn:L.length<=100000):
 aai 325 #[v,.func (.func g) #[] lb] w (I J (lH p L)):=by
 obtain⟨A,cap,rfl,hnc,hcap⟩:=h.form;cases A with
 | none=>
  have h0:L=[]:=aa6.1 ((Rw.qE h).1);subst h0;clear h hp
  go_enter func325,ntmps325
  exact jl
 | some a=>
  rcases h.2 with⟨hv,_⟩ | ⟨g0,c0,cur,hv,hg,hh,r⟩
  ·injection hv with h1;cases h1
  ·injection hv with h1
   injection h1 with h1
   subst h1;refine(AnyQ.slices_IndexFunc Tryz.ixfSubs 4 isAgg293 sizeOf293 f hf p g lb eg g0 0 L.length cap L w hp (aB _) om (aa2.1 hh).1 ?_).mono ?_
   ·exact nR
   ·exact jA
theorem ixfTomb {α:Type}[Inhabited α]{f:α->List Value}(hf:∀ x,(f x).length=2)(p:α->Bool)(eg:∀ args w,(callFunc g args).run prog w= .ok (.enter g args) w){v:Value}{L:List α}(w:World)
 (hp:PredBelow prog g lb (λx=>.agg (f x).toArray) p w) (h:Rw f 244 2 w b v L) (hn:L.length<=100000):
 aai 218 #[v,.func (.func g) #[] lb] w (I J (lH p L)):=by
 obtain⟨A,cap,rfl,hnc,hcap⟩:=h.form;cases A with
 | none=>
  have h0:L=[]:=aa6.1 ((Rw.qE h).1);subst h0;clear h hp
  go_enter func218,ntmps218
  exact jl
 | some a=>
  rcases h.2 with⟨hv,_⟩ | ⟨g0,c0,cur,hv,hg,hh,r⟩
  ·injection hv with h1;cases h1
  ·injection hv with h1
   injection h1 with h1
   subst h1;refine(AnyQ.slices_IndexFunc Tryz.ixfTomb 2 isAgg244 sizeOf244 f hf p g lb eg g0 0 L.length cap L w hp (aB _) om (aa2.1 hh).1 ?_).mono ?_
   ·exact od
   ·exact jA
theorem ixfSpan {α:Type}[Inhabited α]{f:α->List Value}(hf:∀ x,(f x).length=2)(p:α->Bool)(eg:∀ args w,(callFunc g args).run prog w= .ok (.enter g args) w){v:Value}{L:List α}(w:World)
 (hp:PredBelow prog g lb (λx=>.agg (f x).toArray) p w) (h:Rw f 110 2 w b v L) (hn:L.length<=100000):
 aai 316 #[v,.func (.func g) #[] lb] w (I J (lH p L)):=by
 obtain⟨A,cap,rfl,hnc,hcap⟩:=h.form;cases A with
 | none=>
  have h0:L=[]:=aa6.1 ((Rw.qE h).1);subst h0;clear h hp
  go_enter func316,ntmps316
  exact jl
 | some a=>
  rcases h.2 with⟨hv,_⟩ | ⟨g0,c0,cur,hv,hg,hh,r⟩
  ·injection hv with h1;cases h1
  ·injection hv with h1
   injection h1 with h1
   subst h1;refine(AnyQ.slices_IndexFunc Tryz.ixfSpan 2 isAgg110 sizeOf110 f hf p g lb eg g0 0 L.length cap L w hp (aB _) om (aa2.1 hh).1 ?_).mono ?_
   ·exact od
   ·exact jA
theorem KN:(prog.info? 244).map (λi=>(i.zero,i.size,i.bytes))=G (G (.agg #[ax,av]),2,24):=kr
theorem F5:Ty 129 244 2 24:=⟨underlying129,fz KN D,dc,dc⟩
theorem KR:(prog.info? 110).map (λi=>(i.zero,i.size,i.bytes))=G (G (.agg #[av,av]),2,16):=kr
theorem xg:Ty 223 110 2 16:=⟨underlying223,fz KR D,dc,dc⟩
theorem clnStay {α:Type}{f:α->List Value}(ho:∀ x,∀ u∈f x,u.oneCell'=Q){v}{L:List α}(w)(h:Rw f 112 4 w b v L)(hn:L.length<=100000):
 Calls prog 197 #[v] w λe w'=>∃ v',e= .returned v'/\Rw f 112 4 w' w.heap.size v' L/\Bl w w':=by
 obtain⟨A,cap,rfl,hnc,hcap⟩:=h.form;obtain⟨i,au,hi,hz,h1,h2,h3⟩:=uL.i;have hs:=Rw.sl ho h;cases A with
 | none=>
  obtain⟨h0,h00⟩:=Rw.qE h;have hL:L=[]:=aa6.1 h0;subst hL;subst h00;refine(AnyE.slices_Clone_nil Tryz.clnStay 0 0 w).mono ?_;exact jw
 | some a=>
  rcases h.2 with⟨hv,_⟩ | ⟨g0,c0,cur,hv,hg,hh,r⟩
  ·injection hv with h1;cases h1
  ·injection hv with h4
   injection h4 with h4
   subst h4;refine(AnyE.slices_Clone Tryz.clnStay i au 4 32 hi hz h1 h2 h3 dc sizeOf112 g0 0 L.length cap (L.flatMap f) w hs.len eQ om ?_ hs.one).mono ?_
   ·exact js
   ·exact jz
theorem clnSess {α:Type}{f:α->List Value}(ho:∀ x,∀ u∈f x,u.oneCell'=Q){v}{L:List α}(w)(h:Rw f 289 4 w b v L)(hn:L.length<=100000):
 Calls prog 202 #[v] w λe w'=>∃ v',e= .returned v'/\Rw f 289 4 w' w.heap.size v' L/\Bl w w':=by
 obtain⟨A,cap,rfl,hnc,hcap⟩:=h.form;obtain⟨i,au,hi,hz,h1,h2,h3⟩:=F6.i;have hs:=Rw.sl ho h;cases A with
 | none=>
  obtain⟨h0,h00⟩:=Rw.qE h;have hL:L=[]:=aa6.1 h0;subst hL;subst h00;refine(AnyE.slices_Clone_nil Tryz.clnSess 0 0 w).mono ?_;exact jw
 | some a=>
  rcases h.2 with⟨hv,_⟩ | ⟨g0,c0,cur,hv,hg,hh,r⟩
  ·injection hv with h1;cases h1
  ·injection hv with h4
   injection h4 with h4
   subst h4;refine(AnyE.slices_Clone Tryz.clnSess i au 4 40 hi hz h1 h2 h3 dc sizeOf289 g0 0 L.length cap (L.flatMap f) w hs.len eQ om ?_ hs.one).mono ?_
   ·exact js
   ·exact jz
theorem clnUser {α:Type}{f:α->List Value}(ho:∀ x,∀ u∈f x,u.oneCell'=Q){v}{L:List α}(w)(h:Rw f 282 2 w b v L)(hn:L.length<=100000):
 Calls prog 203 #[v] w λe w'=>∃ v',e= .returned v'/\Rw f 282 2 w' w.heap.size v' L/\Bl w w':=by
 obtain⟨A,cap,rfl,hnc,hcap⟩:=h.form;obtain⟨i,au,hi,hz,h1,h2,h3⟩:=F4.i;have hs:=Rw.sl ho h;cases A with
 | none=>
  obtain⟨h0,h00⟩:=Rw.qE h;have hL:L=[]:=aa6.1 h0;subst hL;subst h00;refine(AnyE.slices_Clone_nil Tryz.clnUser 0 0 w).mono ?_;exact jw
 | some a=>
  rcases h.2 with⟨hv,_⟩ | ⟨g0,c0,cur,hv,hg,hh,r⟩
  ·injection hv with h1;cases h1
  ·injection hv with h4
   injection h4 with h4
   subst h4;refine(AnyE.slices_Clone Tryz.clnUser i au 2 40 hi hz h1 h2 h3 dc sizeOf282 g0 0 L.length cap (L.flatMap f) w hs.len eQ om ?_ hs.one).mono ?_
   ·exact js
   ·exact jz
theorem clnSubs {α:Type}{f:α->List Value}(ho:∀ x,∀ u∈f x,u.oneCell'=Q){v}{L:List α}(w)(h:Rw f 293 4 w b v L)(hn:L.length<=100000):
 Calls prog 204 #[v] w λe w'=>∃ v',e= .returned v'/\Rw f 293 4 w' w.heap.size v' L/\Bl w w':=by
 obtain⟨A,cap,rfl,hnc,hcap⟩:=h.form;obtain⟨i,au,hi,hz,h1,h2,h3⟩:=AI.i;have hs:=Rw.sl ho h;cases A with
 | none=>
  obtain⟨h0,h00⟩:=Rw.qE h;have hL:L=[]:=aa6.1 h0;subst hL;subst h00;refine(AnyE.slices_Clone_nil Tryz.clnSubs 0 0 w).mono ?_;exact jw
 | some a=>
  rcases h.2 with⟨hv,_⟩ | ⟨g0,c0,cur,hv,hg,hh,r⟩
  ·injection hv with h1;cases h1
  ·injection hv with h4
   injection h4 with h4
   subst h4;refine(AnyE.slices_Clone Tryz.clnSubs i au 4 48 hi hz h1 h2 h3 dc sizeOf293 g0 0 L.length cap (L.flatMap f) w hs.len eQ om ?_ hs.one).mono ?_
   ·exact js
   ·exact jz
theorem clnTomb {α:Type}{f:α->List Value}(ho:∀ x,∀ u∈f x,u.oneCell'=Q){v}{L:List α}(w)(h:Rw f 244 2 w b v L)(hn:L.length<=100000):
 Calls prog 205 #[v] w λe w'=>∃ v',e= .returned v'/\Rw f 244 2 w' w.heap.size v' L/\Bl w w':=by
 obtain⟨A,cap,rfl,hnc,hcap⟩:=h.form;obtain⟨i,au,hi,hz,h1,h2,h3⟩:=F5.i;have hs:=Rw.sl ho h;cases A with
 | none=>
  obtain⟨h0,h00⟩:=Rw.qE h;have hL:L=[]:=aa6.1 h0;subst hL;subst h00;refine(AnyE.slices_Clone_nil Tryz.clnTomb 0 0 w).mono ?_;exact jw
 | some a=>
  rcases h.2 with⟨hv,_⟩ | ⟨g0,c0,cur,hv,hg,hh,r⟩
  ·injection hv with h1;cases h1
  ·injection hv with h4
   injection h4 with h4
   subst h4;refine(AnyE.slices_Clone Tryz.clnTomb i au 2 24 hi hz h1 h2 h3 dc sizeOf244 g0 0 L.length cap (L.flatMap f) w hs.len eQ om ?_ hs.one).mono ?_
   ·exact js
   ·exact jz
theorem clnSpan {α:Type}{f:α->List Value}(ho:∀ x,∀ u∈f x,u.oneCell'=Q){v}{L:List α}(w)(h:Rw f 110 2 w b v L)(hn:L.length<=100000):
 Calls prog 250 #[v] w λe w'=>∃ v',e= .returned v'/\Rw f 110 2 w' w.heap.size v' L/\Bl w w':=by
 obtain⟨A,cap,rfl,hnc,hcap⟩:=h.form;obtain⟨i,au,hi,hz,h1,h2,h3⟩:=xg.i;have hs:=Rw.sl ho h;cases A with
 | none=>
  obtain⟨h0,h00⟩:=Rw.qE h;have hL:L=[]:=aa6.1 h0;subst hL;subst h00;refine(AnyE.slices_Clone_nil Tryz.clnSpan 0 0 w).mono ?_;exact jw
 | some a=>
  rcases h.2 with⟨hv,_⟩ | ⟨g0,c0,cur,hv,hg,hh,r⟩
  ·injection hv with h1;cases h1
  ·injection hv with h4
   injection h4 with h4
   subst h4;refine(AnyE.slices_Clone Tryz.clnSpan i au 2 16 hi hz h1 h2 h3 dc sizeOf110 g0 0 L.length cap (L.flatMap f) w hs.len eQ om ?_ hs.one).mono ?_
   ·exact js
   ·exact jz
