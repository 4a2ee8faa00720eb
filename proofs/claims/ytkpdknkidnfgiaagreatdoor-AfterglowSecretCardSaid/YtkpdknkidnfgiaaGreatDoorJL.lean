/- Lemmas for AfterglowSecret: what functions of the program return; no condition. -/
import Derived.Test.YtkpdknkidnfgiaaGreatDoorQA
import Derived.Test.YtkpdknkidnfgiaaGreatDoorJK
set_option maxHeartbeats 0
set_option maxRecDepth 100000
set_option linter.unusedVariables false
open Go.Value renaming int->I,string->C,slice->Z
open Go.IntKind renaming i64->J,u8->U
open Option renaming none->E,some->G
open Bool renaming true->Q,false->z
open Go.Lib renaming hid->H
open Go.Proofs.Tryz
namespace Go.Proofs.YtkpdknkidnfgiaaGreatDoor
variable {g:Nat} {t:TypeId} {W:World}
namespace Tp
open Go Go.RowKit
theorem KL:(prog.info? 110).map (·.size)=G 2:=kr
def fm.v (s:fm):Value:=.agg #[I J s.a,I J s.b]
def eP.v (s:eP):Value:=.agg #[I J s.a,I J s.b,I J s.n,I J s.st]
theorem kl (s:fm)(w):aai 193 #[s.v] w (.bool (!s.ok)):=by
 obtain⟨a,b⟩:=s;unfold fm.v fm.ok;simp only
 go_enter func193,ntmps193
 go_wp2
 go_ret;refine⟨?_,gl _ _⟩;show Ending.returned (.bool (decide (b<=a)))=_;rw[<-decide_not];simp
theorem yg (s t:fm)(w):aai 192 #[s.v,t.v] w (fm.v ⟨max s.a t.a,min s.b t.b⟩):=by
 obtain⟨a,b⟩:=s;obtain⟨c,d⟩:=t;unfold fm.v;simp only
 go_enter func192,ntmps192
 go_wp2
 have hp:Bk (((w.alloc (.cells #[I J a,I J b] 110)).alloc (.cells #[I J c,I J d] 110)).alloc (.cells #[I J (max a c),I J (min b d)] 110)) (w.heap.size+1+1) 110 #[I J (max a c),I J (min b d)]:=fh _ _ sm;exact aa1 (eS (p:=4) D _ _ _ _ _ _ _ D hp underlying110 D KL) D ⟨D,bl3 _ _ _ _⟩
def lP:List Int->Int
 | []=>0
 | x::r=>if x=0 then lP r else x
theorem Og (l:List Int)(g c:Nat)(w:World)(h63:l.length<=1000)(h:∀ k (hk:k<l.length),w.cell? ⟨g,k,E⟩=G (I J l[k])):Calls prog 207 #[Z (G ⟨g,0,E⟩) l.length c] w λe w'=>e= .returned (I J (lP l))/\w=w':=by
 obtain⟨n,hn,HN⟩:=nh l.length;rw[<-hn] at h63 ⊢;obtain⟨au,hz,HZ⟩:=nh (lP l);rw[<-hz];have HH:=H h;clear h hn hz
 go_enter func207,ntmps207
 go_wp2
 go_loop [8] (λi=>∃ k:Nat,k<=n/\i= I J k/\au=lP (l.drop k)) (λi=>n - (intOf i).toNat)
 case atStart=>exact⟨0,aD _,D,HZ⟩
 case round=>
  obtain⟨k,hk,rfl,hz⟩:=hrel;clear hk;by_cases hlt:k<n
  ·have hk:k<l.length:=by rw[<-HN.out];exact hlt
   have c0:=HH k hk;have hd:l.drop k=l[k]::l.drop (k+1):=aR hk;rw[hd] at hz;generalize l[k]=x at c0 hz;clear hd;replace hz:=H hz;obtain⟨i1,i2⟩:=ln (k:=k) (m:=n) om;by_cases hx:x=0
   ·have e1:(x != 0)=z:=by simp[hx]
    have HX:=H hx;clear hx
    go_wp2
    go_round
    case rel=>exact⟨k+1,om,by go_num,by rw[hz.out,lP,aA HX.out]⟩
    case measure=>simp[intOf];omega
   ·have e1:(x != 0)=Q:=by simpa using hx
    go_wp2
    go_ret;exact⟨by rw[hz.out,lP,az hx];rfl,D⟩
  ·have i1:¬(k:Int)<n:=om;have HZ:=H (show au=0 by rw[hz,bR ju];rfl);clear hz
   go_wp2
   go_ret;exact⟨by rw[HZ.out];rfl,D⟩
theorem or4 {a b c d:Int}(h:Bk W g t #[I J a,I J b,I J c,I J d]):Calls prog 207 #[Z (G ⟨g,0,E⟩) 4 4] W λe w'=>e= .returned (I J (lP [a,b,c,d]))/\W=w':=
 Og [a,b,c,d] g 4 W sm λk hk=>by
  rw[Bk.ce h k,bT]
  match k,hk with
  | 0,_=>rfl
  | 1,_=>rfl
  | 2,_=>rfl
  | 3,_=>rfl
def fB (s t:eP):Int:=lP [Lib.compareInt s.a t.a,Lib.compareInt s.b t.b,Lib.compareInt s.n t.n,Lib.compareInt s.st t.st]
theorem mx (s t:eP)(w):aai 128 #[s.v,t.v] w (I J (fB s t)):=by
 obtain⟨a,b,n,m⟩:=s;obtain⟨c,d,p,q⟩:=t;unfold eP.v fB;simp only;obtain⟨A,V,hA,hV,BA,BX,HB,HAw,SV⟩:=lj w #[I J a,I J b,I J n,I J m] 112 #[I J c,I J d,I J p,I J q] 112;obtain⟨a0,a1,a2,a3⟩:=pw BA;obtain⟨x0,x1,x2,x3⟩:=pw BX
 go_enter func128,ntmps128
 go_upto_region 1 with fail
 rw[<-hV,<-hA];clear hV hA
 go_region_held3 (λw'=>Bl V w') (exact n7) (first | (go_at_call 208;refine QS (Tryz.cmp_Compare_int _ _ _) ?_) | (go_at_call 207;refine QS (or4 (BW _ _)) ?_))
 go_wp2
 go_ret;exact⟨D,HB.ca ms⟩
def eP.cs (s:eP):List Value:=[I J s.a,I J s.b,I J s.n,I J s.st]
theorem j0 (x:eP):∀ u∈x.cs,u.oneCell'=Q:=by simp[eP.cs,Value.oneCell']
theorem QE (s t):0<fB s t↔t.lt s=Q:=by
 simp only[fB,lP,Lib.compareInt,eP.lt,aN]
 grind
def mf:List eP->eP->Nat
 | [],_=>0
 | x::r,s=>if(x::r).all (λy=>s.lt y) then 0 else mf r s+1
theorem BL:∀ (l:List eP) (s:eP),mQ l s=l.take (mf l s)++s::l.drop (mf l s)
 | [],_=>rfl
 | x::r,s=>by
   unfold mQ mf
   split
   ·rfl
   ·rw[BL r s];rfl
theorem wU:∀ (l:List eP) (s:eP),mf l s<=l.length
 | [],_=>aB _
 | x::r,s=>by
   unfold mf
   split
   ·exact aD _
   ·have:=wU r s;simp;omega
theorem Cp:∀ (l:List eP) (s:eP) (k:Nat) (hk:k<l.length),mf l s<=k->s.lt l[k]=Q
 | [],_,k,hk,_=>by simp at hk
 | x::r,s,k,hk,h=>by
   unfold mf at h
   split at h
   ·rename_i ha;exact bJ.1 ha _ (aV hk)
   ·cases k with
    | zero=>omega
    | succ k=>exact Cp r s k iG om
theorem Jx:∀ (l:List eP) (s:eP) (k:Nat),mf l s=k+1->∃ h:k<l.length,s.lt l[k]=z
 | [],_,k,h=>by simp[mf] at h
 | x::r,s,k,h=>by
   unfold mf at h
   split at h
   ·omega
   ·rename_i ha;cases k with
    | zero=>
     refine⟨sm,?_⟩;have h0:mf r s=0:=om;show s.lt x=z;rw[dm];intro hx;apply ha;rw[bD,hx,Bool.true_and,bJ];intro y hy;obtain⟨i,hi,rfl⟩:=ab5.1 hy;exact Cp r s i hi om
    | succ k=>
     obtain⟨h1,h2⟩:=Jx r s k om;exact⟨gM,h2⟩
theorem Ju (L:List eP)(s):((L.flatMap eP.cs).take (mf L s*4)++(s.cs++(L.flatMap eP.cs).drop (mf L s*4)))=(mQ L s).flatMap eP.cs/\mf L s+1+(L.length - mf L s)=(mQ L s).length:=by
 obtain⟨h1,h2⟩:=gB eP.cs 4 (λ_=>rfl) L (mf L s);have hk:=wU L s;rw[BL,bB,bh,h1,h2];refine⟨D,?_⟩;simp;omega
theorem Jv (L)(v)(b:Nat)(s:eP)(w)(hs:s.ok=Q)(h:Rw eP.cs 112 4 w b v L)(hn:L.length<=100000):
 Calls prog 199 #[v,s.v] w λe w'=>∃ v',e= .returned v'/\Rw eP.cs 112 4 w' w.heap.size v' (mQ L s)/\Bl w w':=by
 obtain⟨A,cap,rfl,hnc,hcap⟩:=h.form;have HR:=H h;have HNN:=λW=>kl ⟨s.a,s.b⟩ W;have HOK:(⟨s.a,s.b⟩:fm).ok=Q:=hs;rw[HOK] at HNN;unfold fm.v at HNN;replace HNN:=H HNN;obtain⟨K,hK,HK⟩:=nh (mf L s);have HS:=H (show s.v= .agg #[I J s.a,I J s.b,I J s.n,I J s.st] from rfl);obtain⟨n,hnn,HN⟩:=nh L.length;rw[<-hnn] at hn hnc ⊢;clear h hs HOK hK hnn;rw[HS.out];obtain⟨X,V,hX,hV,BX,HB,HXw,SV⟩:=gC w #[I J s.a,I J s.b,I J s.n,I J s.st] 112;obtain⟨x0,x1,x2,x3⟩:=pw BX;have HSL:=H (Rw.sl j0 (HR.bl HB));rw[<-HN.out] at HSL
 go_enter func199,ntmps199
 go_upto_region 1 with fail
 rw[<-hV,<-hX];clear hV hX;have hb0:=br V
 go_wp2_with (go_at_call 193;refine qx (HNN _) λw1 hb1=>?_)
 have HB1:=H hb1
 go_loopw [5] (λi wr=>∃ k:Nat,k<=n/\K<=k/\i= I J k/\Bl V wr) (λi _=>(intOf i).toNat)
 case atStart=>exact⟨n,aB _,by rw[HK.out,HN.out];exact wU L s,D,HB1⟩
 case round=>
  obtain⟨k,hk,hKk,rfl,hb⟩:=hrel;by_cases h0:k=0
  ·have i1:¬(0:Int)<(k:Int):=om;have i2:¬((k:Int)>0):=om
   go_upto_region 4 with fail
   refine ab3 (S:=λw'=>Bl V w') kr (Bl.dr hb) (λhS=>?_);refine tH 0 hS ?_;refine tH 1 hS ?_;refine tH 2 hS ?_;refine oI 3 hS ?_;refine oI 4 hS ?_;refine oI 5 hS ?_;refine oI 6 hS ?_;refine oI 7 hS ?_;refine oI 8 hS ?_;refine oI 9 hS ?_;refine oI 10 hS ?_;refine tH 11 hS ?_;refine XR ?_;have HQ:=H (show K=0 by omega)
   go_wp2_with fail
   have hb2:Bl V wr.drew:=hS
   go_region_held3 (λw'=>Bl V w') (exact n7) (first | (go_at_call 258;refine aaj (Fo (by exact(HSL.bl fU).pre (k:=0) (aD _)) lV (by exact HSL.bl fU) (by exact fh _ _ sm) om) λv4 w4 ho4 hb4=>?_))
   go_wp2_with fail
   go_ret;obtain⟨r1,r2⟩:=Ju L s;rw[<-HK.out,HQ.out] at r1 r2;have hsz:=HB.size;have hsz2:=hb2.size;refine⟨_,D,?_,HB.ca ms⟩;unfold Rw;rw[<-r1,<-r2];have h5:=fa ho4 (b':=w.heap.size) (by simp at hsz2 ⊢;omega);simpa[HN.out,eP.cs,Nat.add_comm] using h5
  ·obtain⟨j,rfl⟩:∃ j,k=j+1:=⟨k - 1,om⟩;have hj:j<L.length:=by rw[<-HN.out];omega
   obtain⟨g,rfl,_,hg,d0,d1,d2,d3⟩:=(HR.bl HB).vW (f:=eP.cs) (λ_=>rfl) j hj;obtain⟨HC,CM,HLT,HGE⟩:=kB (QE L[j] s) (λW=>mx L[j] s W) (Jx L s j) (Cp L s j hj);rw[<-HK.out] at HLT HGE;have i1:(0:Int)<(j:Int)+1:=om;have e1:IntKind.i64.wrap (j:Int)=j:=jh om;obtain⟨i2,i3⟩:=ln (k:=j) (m:=n) om;by_cases hK:K=j+1
   ·have HP:¬0<fB L[j] s:=by
     rw[HC.out];obtain⟨_,h2⟩:=HLT hK;rw[h2];decide
    have HQ:=H hK;clear hK;generalize L[j]=x at HC CM d0 d1 d2 d3 HP;generalize fB x s=y at CM HP HC;have i4:(j:Int)+1<=(n:Int):=om;have i5:(j:Int)+1<=(cap:Int):=om;have i6:(0:Int)<=(j:Int)+1:=om;obtain⟨AQ,hAQ⟩:∃ AQ:Option Addr,(if cap=j+1 then G (⟨g,0,E⟩:Addr) else G ⟨g,(j+1)*4,E⟩)=AQ:=⟨_,D⟩;have HSU:=H (HSL.RG (k:=j+1) om hnc);rw[hAQ] at HSU;have i7:(n:Int)<=cap:=om
    go_upto_region 4 with fail
    go_region_held3 (λw'=>Bl V w') (exact n7) (first | (go_at_call 128;refine qx (CM _) λw3 hb3=>?_))
    have HB3:=H (show Bl V w3 by assumption)
    go_wp2_with fail
    go_region_held3 (λw'=>Bl V w') (exact n7) (first | (go_at_call 258;refine aaj (Fo (by exact(HSL.bl fU).pre (k:=j+1) om) lV abf (by exact fh _ _ sm) om) λv4 w4 ho4 hb4=>?_))
    go_wp2_with fail
    go_ret;obtain⟨r1,r2⟩:=Ju L s;rw[<-HK.out,HQ.out] at r1 r2;have hsz:=HB.size;have hsz2:=HB3.size;refine⟨_,D,?_,HB.ca ms⟩;unfold Rw;rw[<-r1,<-r2];have h5:=fa ho4 (b':=w.heap.size) eC;simpa[HN.out,eP.cs] using h5
   ·have HP:0<fB L[j] s:=HC.out.2 (HGE om);generalize L[j]=x at HC CM d0 d1 d2 d3 HP;generalize fB x s=y at CM HP HC
    go_upto_region 4 with fail
    go_region_held3 (λw'=>Bl V w') (exact n7) (first | (go_at_call 128;refine qx (CM _) λw3 hb3=>?_))
    go_wp2_with fail
    go_roundw
    case rel=>exact⟨j,om,om,by go_num,ms⟩
    case measure=>simp[intOf]
def fl.cs (e:fl):List Value:=[I J e.n,C e.u,I J e.st,I J e.a]
def fl.v (e:fl):Value:=.agg #[I J e.n,C e.u,I J e.st,I J e.a]
theorem kL (x:fl):∀ u∈x.cs,u.oneCell'=Q:=by simp[fl.cs,Value.oneCell']
theorem ve:(prog.info? 112).map (·.size)=G 4:=kr
theorem xt (x:fl)(t:Int)(w):Calls prog 257 #[x.v,I J t] w λe w'=>e= .returned (x.stay t).v/\Bl w w':=by
 obtain⟨n,u,s,a⟩:=x;unfold fl.v fl.stay eP.v;simp only
 go_enter func257,ntmps257
 go_wp2
 exact aa1 (eS (p:=4) D _ _ _ _ _ _ _ D (fh _ _ sm) underlying112 D ve) D ⟨D,Jp _ _ _⟩
def yQ:List fl->Int->Nat
 | [],_=>0
 | x::r,n=>if x.n=n then 0 else yQ r n+1
def Mn (l:List fl)(n:Int)(u:ay):Int:=match kC l n with
 | none=>101
 | some x=>if x.u=u then 0 else 102
theorem Hl (L)(n:Int)(u:ay)(v)(b:Nat)(w)(h:Rw fl.cs 289 4 w b v L)(hl:L.length<=100000):
 aai 300 #[v,I J n,C u] w (.tuple #[I J (yQ L n),I J (Mn L n u)]):=by
 obtain⟨A,cap,rfl,hnc,hcap⟩:=h.form;have HR:=H h;obtain⟨m,hm,HM⟩:=nh L.length;rw[<-hm] at hl ⊢;clear h hm hnc hcap;obtain⟨K,hK⟩:=fe (yQ L n);obtain⟨ak,hE⟩:=fe (Mn L n u);rw[<-hK,<-hE];replace hK:=H hK;replace hE:=H hE
 go_enter func300,ntmps300
 go_wp2
 apply wp_scope_straight
 go_wp2_with (apply wp_label)
 go_loopw [12] (λi wr=>∃ k:Nat,k<=m/\i= I J k/\K=k+yQ (L.drop k) n/\ak=Mn (L.drop k) n u/\Bl w wr) (λi _=>m - (intOf i).toNat)
 case atStart=>exact⟨0,aD _,D,by rw[hK.out];simp,hE,Bl.eH⟩
 case round=>
  obtain⟨k,hk,rfl,k1,k2,hb⟩:=hrel;replace k1:=H k1;replace k2:=H k2;by_cases hlt:k<m
  ·have hk':k<L.length:=by rw[<-HM.out];exact hlt
   obtain⟨g,rfl,_,_,c0,c1,c2,c3⟩:=HR.vW (f:=fl.cs) (λ_=>rfl) k hk';have hd:=H (show L.drop k=L[k]::L.drop (k+1) from aR hk');generalize L[k]=x at c0 c1 c2 c3 hd;obtain⟨i1,i2⟩:=ln (k:=k) (m:=m) om;by_cases hx:x.n=n
   ·have e1:(x.n != n)=z:=by simp[hx]
    have HK2:=H (show K=k by rw[k1.out,hd.out];simp[yQ,hx]);by_cases hu:x.u=u;have e2:=IV hu;have HE2:=H (show ak=0 by rw[k2.out,hd.out];simp[Mn,kC,hx,hu]);rotate_left;have e2:=Ej hu;have HE2:=H (show ak=102 by rw[k2.out,hd.out];simp[Mn,kC,hx,hu]);rotate_left
    all_goals
     clear hx hu
     go_wp2_with fail
     simp only[Exit.noGoto]
     go_ret2
     exact⟨by rw[HK2.out,HE2.out];rfl,hb.al _⟩
   ·have e1:(x.n != n)=Q:=by simpa using hx
    have HX:=H hx;clear hx
    go_wp2_with fail
    refine⟨⟨k+1,om,by go_num,by rw[k1.out,hd.out,yQ,az HX.out];omega,by rw[k2.out,hd.out];simp[Mn,kC,HX.out],hb.al _⟩,?_⟩;simp[intOf];omega
  ·have h0:L.drop k=[]:=bR iF;obtain⟨HK2,HE2⟩:=eN (show K=m by rw[k1.out,h0];simp[yQ];omega) (show ak=101 by rw[k2.out,h0];rfl);clear h0;have i1:¬(k:Int)<m:=om
   go_wp2_with fail
   try simp only[Exit.noGoto]
   go_ret2
   exact⟨by rw[HK2.out,HE2.out];rfl,hb⟩
theorem Jr {L}{n:Int}{x}(h:kC L n=G x):∃ hk:yQ L n<L.length,L[yQ L n]=x:=by
 induction L with
 | nil=>simp[kC] at h
 | cons y r ih=>
  by_cases hy:y.n=n
  ·simp[kC,hy] at h;subst h;exact⟨by simp[yQ,hy],by simp[yQ,hy]⟩
  ·obtain⟨h1,h2⟩:=ih abc;exact⟨by simp[yQ,hy];omega,by simp[yQ,hy];exact h2⟩
theorem Cl {L}{n:Int}{x}(h:kC L n=G x)(s t:Int):tS L n=L.take (yQ L n)++L.drop (yQ L n+1)/\yP L n s t=L.set (yQ L n) ⟨x.n,x.u,s,t⟩:=by
 induction L with
 | nil=>simp[kC] at h
 | cons y r ih=>
  by_cases hy:y.n=n
  ·simp[kC,hy] at h;subst h;simp[tS,yP,yQ,hy]
  ·obtain⟨h1,h2⟩:=ih abc;simp[tS,yP,yQ,hy,h1,h2]
