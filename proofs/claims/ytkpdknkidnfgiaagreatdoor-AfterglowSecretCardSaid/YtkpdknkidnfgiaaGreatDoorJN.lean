/- Lemmas for AfterglowSecret: what functions of the program return; no condition. -/
import Derived.Deep.RegionLaw
import Derived.Shelf.RegionOpenPlain
import Derived.Test.YtkpdknkidnfgiaaGreatDoorJM
import Derived.Test.YtkpdknkidnfgiaaGreatDoorJB
set_option maxHeartbeats 0
set_option maxRecDepth 100000
set_option linter.unusedVariables false
open Go.Value renaming int->I,string->C,slice->Z
open Go.IntKind renaming i64->J,u8->U
open Option renaming none->E,some->G
open Bool renaming true->Q,false->z
open Go.Lib renaming hid->H
open Go.Proofs.Tryz
namespace Go.Proofs.YtkpdknkidnfgiaaGreatDoor
theorem abk{p:Prop}(h:p:=by
 go_enter func320,ntmps320
 go_wp2
 go_ret;exact⟨by rw[HE.out];rfl,D⟩):p:=h
theorem ra{p:Prop}(h:p:=by
 have h1:=hall e he hb;have h0:=(mem_ready.1 hr).1;rw[heq] at h1;rcases bZ i listed.size with h' | h'
 ·simp[h'] at h0 h1;rw[h0] at h1;cases h1
 ·simp[Array.getElem?_eq_none h'] at h1):p:=h
theorem rO{p:Prop}(h:p:=by
 have G2:=G1
 first
  | have _:Tg 1:=tg0
    go_wp2_with fail
  | go_wp2_with ((go_at_call 319;refine(S2 _ _ M1H R2 om om).mono ?_;rintro e w7 ⟨rfl,M2,hM0,hr7,gr7⟩))
 all_goals
  go_end0
  first
   | have _:Tg 1:=tg0
     exact⟨D,_,CD.fin M1H (CD.n2 om),by simpa using R2.out,G2⟩
   | exact⟨D,_,CD.fin M1H hM0,by simpa using hr7,p7 G2 gr7⟩):p:=h
theorem abm{p:Prop}(h:p:=by
 exact⟨D,_,CD.fin M1H (CD.n2 om),by simpa using R2.out,G2⟩):p:=h
variable {a:ByteArray} {rs:List Nat} {xs:List Value} {B X Y b c cap fuel g i id j k m mid n q r s sz:Nat} {t t2:TypeId} {vo vs vt vu:Value} {V W W' w wr:World}
namespace Tp
open Go Go.RowKit Go.Lib
open Ds.DkM (bf gj ij gQ mY iZ)
theorem WS {b:ay}:a.toList=b.toList↔a=b:=⟨λh=>by rw[ByteArray.toList_eq,ByteArray.toList_eq] at h;cases a;cases b;simpa[Array.toList_inj] using h,λh=>by rw[h]⟩
theorem IZ:∀ (x y:List UInt8),Op.bytesLess x y=bytesBefore x y
 | [],[]=>rfl
 | [],_::_=>rfl
 | _::_,[]=>rfl
 | a::r,b::s=>by simp only[Op.bytesLess,bytesBefore,IZ r s]
theorem O6 (a b:ay):Op.bytesLess a.toList b.toList=bf a b:=by
 unfold bf;rw[IZ,ByteArray.toList_eq,ByteArray.toList_eq]
def qg (a b:ay):Int:=if bf a b=Q then -1 else if a=b then 0 else 1
theorem QA (a b)(w):Calls prog 320 #[C a,C b] w λe w'=>e= .returned (I J (qg a b))/\w'=w:=by
 have E1:=O6 a b;have E2:(a.toList==b.toList)=decide (a=b):=gS;have HE:=H (show qg a b=if bf a b=Q then -1 else if decide (a=b)=Q then 0 else 1 by unfold qg;simp);generalize bf a b=p at E1 HE;generalize decide (a=b)=q at E2 HE;cases p with
 | true=>
  exact abk
 | false=>
  cases q with
  | true=>
   exact abk
  | false=>
   exact abk
theorem yd (a b)(w):Calls prog 256 #[C a,C b] w λe w'=>e= .returned (I J (qg a b))/\w'=w:=by
 have CM:=H (λW=>QA a b W)
 go_enter func256,ntmps256
 go_wp2_with (go_at_call 320;refine QS (CM _) ?_)
 go_ret;exact⟨D,D⟩
theorem or2 {a b:Int}(h:Bk W g t #[I J a,I J b]):Calls prog 207 #[Z (G ⟨g,0,E⟩) 2 2] W λe w'=>e= .returned (I J (lP [a,b]))/\W=w':=
 Og [a,b] g 2 W sm λk hk=>by
  rw[Bk.ce h k,bT]
  match k,hk with
  | 0,_=>rfl
  | 1,_=>rfl
def Us (a b c d:ay):Int:=lP [qg a c,qg b d]
theorem Ob (a b c d)(w):aai 376 #[.agg #[C a,C b],.agg #[C c,C d]] w (I J (Us a b c d)):=by
 unfold Us;obtain⟨A,V,hA,hV,BA,BX,HB,HAw,SV⟩:=lj w #[C a,C b] 117 #[C c,C d] 117;obtain⟨a0,a1⟩:=ni BA;obtain⟨x0,x1⟩:=ni BX
 go_enter func376,ntmps376
 go_upto_region 1 with fail
 rw[<-hV,<-hA];clear hV hA
 go_region_held3 (λw'=>Bl V w') (exact n7) (first | (go_at_call 256;refine QS (yd _ _ _) ?_) | (go_at_call 207;refine QS (or2 (BW _ _)) ?_))
 go_wp2
 go_ret;exact⟨D,HB.ca ms⟩
def Of (x y:Sub):Int:=lP [Us x.w x.u y.w y.u,Lib.compareInt x.a y.a]
theorem Ko (x y:Sub)(w):aai 327 #[x.v,y.v] w (I J (Of x y)):=by
 obtain⟨a,b,s,t⟩:=x;obtain⟨c,d,p,q⟩:=y;unfold Sub.v Of;simp only;have PC:=H (λW=>Ob a b c d W);obtain⟨A,V,hA,hV,BA,BX,HB,HAw,SV⟩:=lj w #[C a,C b,I J s,I J t] 293 #[C c,C d,I J p,I J q] 293;obtain⟨a0,a1,a2,a3⟩:=pw BA;obtain⟨x0,x1,x2,x3⟩:=pw BX
 go_enter func327,ntmps327
 go_upto_region 1 with fail
 rw[<-hV,<-hA];clear hV hA
 go_region_held3 (λw'=>Bl V w') (exact n7) (first | (go_at_call 376;refine qx (PC _) λw2 hb2=>?_) | (go_at_call 208;refine QS (Tryz.cmp_Compare_int _ _ _) ?_) | (go_at_call 207;refine QS (or2 (by first | exact BW _ _ | exact eL _ _)) ?_))
 all_goals
  go_wp2
  go_ret;exact⟨D,HB.ca ms⟩
theorem Oe (x y):0<Of y x↔Sub.lt bf x y=Q:=by
 unfold Of Us qg Sub.lt;simp only[lP,Lib.compareInt];by_cases h1:x.w=y.w
 ·rw[h1];by_cases h2:x.u=y.u
  ·rw[h2];simp[gj]
   grind
  ·have h2':¬y.u=x.u:=λe=>h2 e.symm;rcases gQ h2 with h3 | h3
   ·simp[gj,h2,h2',h3,iZ h3]
   ·simp[gj,h2,h3,iZ h3]
 ·have h1':¬y.w=x.w:=λe=>h1 e.symm;rcases gQ h1 with h3 | h3
  ·simp[h1,h1',h3,iZ h3]
  ·simp[h1,h3,iZ h3]
theorem Xe(e:Sub)(W:World)(x:Sub)(h0:W.cell? ⟨X,0,E⟩=G (C e.w))(h1:W.cell? ⟨X,1,E⟩=G (C e.u))(h2:W.cell? ⟨X,2,E⟩=G (I J e.a))(h3:W.cell? ⟨X,3,E⟩=G (I J e.b)):
 aai 326 #[.agg (Sub.cs x).toArray,.pointer (G ⟨X,0,E⟩)] W (.bool (Sub.lt bf e x)):=by
 obtain⟨OR,HE⟩:=eN (λW=>Ko x e W) (show decide (0<Of x e)=Sub.lt bf e x by
  rw[cv,aN,Oe])
 obtain⟨y,au,s,t⟩:=x;obtain⟨a,b,c,d⟩:=e;show Calls prog 326 #[.agg #[C y,C au,I J s,I J t],.pointer (G ⟨X,0,E⟩)] W _;have g0:=(gl W (.cells #[C y,C au,I J s,I J t] 293)).ce h0;have g1:=(gl W (.cells #[C y,C au,I J s,I J t] 293)).ce h1;have g2:=(gl W (.cells #[C y,C au,I J s,I J t] 293)).ce h2;have g3:=(gl W (.cells #[C y,C au,I J s,I J t] 293)).ce h3;clear h0 h1 h2 h3
 go_enter func326,ntmps326
 go_wp2_with (go_at_call 327;refine qx (OR _) λw2 hb2=>?_)
 go_ret;exact⟨aaN,(gl _ _).ca hb2⟩
theorem Xh(a b)(W:World)(x:Sub)(h0:W.cell? ⟨X,0,E⟩=G (C a))(h1:W.cell? ⟨X,1,E⟩=G (C b)):
 aai 378 #[.agg (Sub.cs x).toArray,.pointer (G ⟨X,0,E⟩)] W (.bool (Sub.ou a b x)):=by
 obtain⟨y,au,s,t⟩:=x;show Calls prog 378 #[.agg #[C y,C au,I J s,I J t],.pointer (G ⟨X,0,E⟩)] W _;have g0:=(gl W (.cells #[C y,C au,I J s,I J t] 293)).ce h0;have g1:=(gl W (.cells #[C y,C au,I J s,I J t] 293)).ce h1;clear h0 h1
 go_enter func378,ntmps378
 go_wp2
 all_goals
  simp only[WS] at*;go_ret;refine⟨?_,gl _ _⟩;show Ending.returned (.bool _)=_
  simp_all [Sub.ou]
  try rfl
theorem Xi(a b)(h0:∀ W,Bl V W->W.cell? ⟨X,0,E⟩=G (C a))(h1:∀ W,Bl V W->W.cell? ⟨X,1,E⟩=G (C b)):ZA 378 #[.pointer (G ⟨X,0,E⟩)] Sub.cs (Sub.ou a b) V:=
 λW x hb=>Xh a b W x (h0 W hb) (h1 W hb)
theorem Xf(e:Sub)(h0:∀ W,Bl V W->W.cell? ⟨X,0,E⟩=G (C e.w))(h1:∀ W,Bl V W->W.cell? ⟨X,1,E⟩=G (C e.u))(h2:∀ W,Bl V W->W.cell? ⟨X,2,E⟩=G (I J e.a))(h3:∀ W,Bl V W->W.cell? ⟨X,3,E⟩=G (I J e.b)):ZA 326 #[.pointer (G ⟨X,0,E⟩)] Sub.cs (Sub.lt bf e) V:=
 λW x hb=>Xe e W x (h0 W hb) (h1 W hb) (h2 W hb) (h3 W hb)
def mj (a b:ay):Value:=.agg #[C a,C b]
theorem Ab (a b:ay)(L)(v)(b0:Nat)(w)(h:Rw Sub.cs 293 4 w b0 v L)(hn:L.length<=100000):
 aai 329 #[v,mj a b] w (I J (lH (Sub.ou a b) L)):=by
 unfold mj;obtain⟨X,V,hX,hV,BX,HB,HXw,SV⟩:=gC w #[C a,C b] 117;obtain⟨x0,x1⟩:=ni BX;have IX:=H (ixfSubs (f:=Sub.cs) (λ_=>rfl) (Sub.ou a b) Tryz.call378 V ((Xi a b x0 x1).below Bl.eH) (h.bl HB) hn);clear h
 go_enter func329,ntmps329
 go_upto_region 1 with fail
 rw[<-hV,<-hX];clear hV hX
 go_wp2_with (go_at_call 325;refine qx IX λw1 hb1=>?_)
 go_ret;exact⟨D,HB.ca hb1⟩
theorem wI {α:Type}(p:α->Bool):∀ L:List α,decide (0<=lH p L)=L.any p:=by
 intro L;have h:decide (gU p L<L.length)=L.any p:=by
  induction L with
  | nil=>rfl
  | cons x r ih=>
   unfold gU;by_cases hx:p x=Q
   ·simp[hx]
   ·have e:p x=z:=by simpa using hx
    rw[bL,e,Bool.false_or,<-ih];simp
 rw[<-h];unfold lH
 split
 ·rename_i h1;rw[aF om,aF h1]
 ·rename_i h1;rw[aC om,aC h1]
theorem TO (a b:ay)(L)(v)(b0:Nat)(w)(h:Rw Sub.cs 293 4 w b0 v L)(hn:L.length<=100000):
 aai 324 #[v,mj a b] w (.bool (yu L a b)):=by
 unfold mj;obtain⟨X,V,hX,hV,BX,HB,HXw,SV⟩:=gC w #[C a,C b] 117;obtain⟨x0,x1⟩:=ni BX;have FO:=Ab a b L v b0 V (h.bl HB) hn;unfold mj at FO;have HE:=H (show decide (0<=lH (Sub.ou a b) L)=yu L a b from wI _ _);replace FO:=H FO;clear h;have hb0:=br V;generalize lH (Sub.ou a b) L=ae at HE FO
 go_enter func324,ntmps324
 go_upto_region 1 with fail
 rw[<-hV,<-hX];clear hV hX
 go_wp2_with (go_at_call 329;refine qx FO λw1 hb1=>?_)
 go_ret;exact⟨aaN,HB.ca hb1⟩
theorem wK:∀ (L:List Sub) (e:Sub),qe bf L e=L.take (gU (Sub.lt bf e) L)++e::L.drop (gU (Sub.lt bf e) L)
 | [],_=>rfl
 | x::r,e=>by
   unfold qe gU;by_cases h:Sub.lt bf e x=Q
   ·simp[h]
   ·rw[az h,az h,wK r e];rfl
theorem Ll (a b)(t:Int)(L)(v)(b0:Nat)(w)(h:Rw Sub.cs 293 4 w b0 v L)(hf:yu L a b=z)(hn:L.length<=1000):
 Calls prog 262 #[v,mj a b,I J t] w λe' w'=>∃ v',e'= .returned (.tuple #[v',av])/\Rw Sub.cs 293 4 w' w.heap.size v' (qe bf L ⟨a,b,t,FE⟩)/\Bl w w':=by
 obtain⟨e,he⟩:∃ e:Sub,e=⟨a,b,t,FE⟩:=⟨_,D⟩;rw[<-he];replace he:=H he;have IF:=H (λW (hb:Bl w W)=>TO a b L v b0 W (h.bl hb) om);rw[hf] at IF;unfold mj at IF ⊢;obtain⟨K,hK,HK⟩:=nh (gU (Sub.lt bf e) L);have hKL:=By (Sub.lt bf e) L;obtain⟨A,cap,rfl,hnc,hcap⟩:=h.form;have HR:=H h;obtain⟨n,hnn,HN⟩:=nh L.length;have hI:lH (Sub.lt bf e) L=if gU (Sub.lt bf e) L<L.length then(gU (Sub.lt bf e) L:Int) else -1:=rfl;rw[<-HK.out,<-HN.out] at hI;obtain⟨ae,hI2⟩:∃ ae:Int,ae=if K<n then(K:Int) else -1:=⟨_,D⟩;rw[<-hI2] at hI;have IX:=λ(W V2:World) (X:Nat) h0 h1 h2 h3 (hV:Bl w V2) (hb:Bl V2 W)=>ixfSubs (f:=Sub.cs) (λ_=>rfl) (Sub.lt bf e) Tryz.call326 W ((Xf (V:=V2) (X:=X) e h0 h1 h2 h3).below hb) (h.bl (hV.ca hb)) om;rw[hI] at IX;have HSL:=H (Rw.sl sub_one h);rw[<-hK,<-hnn] at hKL;rw[<-hnn] at HSL hn IX IF hnc ⊢;replace IX:=H IX;have FIN:=H (λ(W:World) (B:Nat) (v4:Value) (hB:w.heap.size<=B) (ho:W.ownsRow B 293 4 v4 (K+1+(n - K)) ((L.flatMap Sub.cs).take (K*4)++(e.cs++(L.flatMap Sub.cs).drop (K*4))))=>show Rw Sub.cs 293 4 W w.heap.size v4 (qe bf L e) by
  obtain⟨r1,r2⟩:=BH (f:=Sub.cs) (sz:=4) (λ_=>rfl) (L:=L) (e:=e) (k:=K) (by rw[HN.out] at hKL;exact hKL);rw[HN.out,r1,r2,HK.out,<-wK] at ho;exact fa ho hB)
 have hIK:(ae=K/\K<n)∨(ae= -1/\K=n):=by rw[hI2];split<;>omega
 have EC:=H (show e.cs=[C a,C b,I J t,I J 1099511627776] by rw[he.out];rfl);rw[EC.out] at FIN;have E0:=H (show e.w=a/\e.u=b/\e.a=t/\e.b=1099511627776 by rw[he.out];exact⟨D,D,D,D⟩);clear h hK hnn hf hI hI2;obtain⟨AQ,hAQ,HSU⟩:=HSL.VR hKL hnc;replace HSU:=H HSU;have j1:(0:Int)<=(K:Int):=om;have j2:(K:Int)<=n:=om;have j3:(K:Int)<=cap:=om;replace hIK:=H hIK;obtain⟨X,V,hX,hV,BX,HB,HXw,SV⟩:=gC w #[C a,C b] 117;obtain⟨x0,x1⟩:=ni BX;have hb0:=br V
 go_enter func262,ntmps262
 go_upto_region 1 with fail
 rw[<-hV,<-hX];clear hV hX
 go_upto_region 3 with(go_at_call 324;refine qx (IF _ HB) λw1 hb1=>?_)
 obtain⟨y0,y1⟩:=xV x0 x1 w1 hb1;have HB1:=H (HB.ca hb1)
 go_upto_region 4 with fail
 obtain⟨V2,hV2⟩:=fe (w1.alloc (.cells #[C a,C b,I J t,I J 1099511627776] 293));have BX2:Bk V2 w1.heap.size 293 #[C a,C b,I J t,I J 1099511627776]:=by rw[hV2];exact eL _ _
 have HB2:=H (show Bl w V2 by rw[hV2];exact HB1.al _);rw[<-hV2];clear hV2;generalize w1.heap.size=X2 at*;obtain⟨x0,x1,x2,x3⟩:=pw BX2;have IX2:=H (IX V2 V2 X2 (by rw[E0.out.1];exact x0) (by rw[E0.out.2.1];exact x1) (by rw[E0.out.2.2.1];exact x2) (by rw[E0.out.2.2.2];exact x3) HB2 Bl.eH);obtain⟨rfl,hlt2⟩ | ⟨rfl,rfl⟩:=hIK.out
 have j4:¬(K:Int)<0:=om;rotate_left;rw[cr] at HSU;have FI2:=FIN.out;simp only[cr] at FI2;replace FI2:=H FI2;rotate_left
 all_goals
  go_wp2_with (go_at_call 325;refine qx IX2 λw2 hb2=>?_)
  have HB3:=H hb2;have hbw:=HB2.ca hb2
  go_region_held3 (λw'=>Bl V2 w') (exact n7) (first | (go_at_call 328;refine aaj (QK (by exact(HSL.bl fU).pre (k:=K) om) lV abf (by exact fh _ _ sm) om) λv4 w4 ho4 hb4=>?_))
  go_wp2_with fail
  go_ret2
 ·exact⟨_,D,FIN _ _ _ (by have:=HB2.size;have:=HB3.size;simp;omega) ho4,HB2.ca ms⟩
 ·exact⟨_,D,FI2 _ _ _ (by have:=HB2.size;have:=HB3.size;simp;omega) ho4,HB2.ca ms⟩
end Tp
namespace Tp
open Go Go.RowKit Go.Lib Go.Sort
open Ds.DkM (bf gj ij gQ mY iZ)
theorem Uh (L)(b g n cap k:Nat)(w)(h:Rw Sub.cs 293 4 w b (Z (G ⟨g,0,E⟩) n cap) L)(hk:k<n)(hnl:n=L.length)(hn:n<=1000):
 Calls prog 330 #[Z (G ⟨g,0,E⟩) n cap,I J k,I J ((k:Int)+1)] w λe w'=>e= .returned (Z (G ⟨g,0,E⟩) (n - 1) cap)/\Rw Sub.cs 293 4 w' b (Z (G ⟨g,0,E⟩) (n - 1) cap) (L.take k++L.drop (k+1))/\w.grownBy w' (G g):=by
 obtain⟨cur,hB,hs,ht⟩:=h.cur;have hsl:=Rw.sl sub_one h;rw[<-hnl] at hsl ht;have hnc:n<=cap:=by
  obtain⟨A',cap',e1,e2,_⟩:=h.form;injection e1 with _ _ e3
  omega
 have hcap:cap<=9223372036854775807:=by
  obtain⟨A',cap',e1,_,e2⟩:=h.form;injection e1 with _ _ e3
  omega
 have hsu:=hsl.RG (k:=k+1) om hnc;obtain⟨AD,hAD⟩:∃ AD:Addr,(if cap=k+1 then(⟨g,0,E⟩:Addr) else⟨g,(k+1)*4,E⟩)=AD:=⟨_,D⟩;have hAD2:(if cap=k+1 then G (⟨g,0,E⟩:Addr) else G ⟨g,(k+1)*4,E⟩)=G AD:=by rw[<-hAD];split<;>rfl
 rw[hAD2] at hsu;obtain⟨news,hnews⟩:=fe ((L.flatMap Sub.cs).drop ((k+1)*4));rw[<-hnews] at hsu;have hnl2:news.length=(n - (k+1))*4:=hsu.len;have hB1:Bk (w.drew.setCells g (k*4) news) g 293 (setMany cur (k*4) news):=Bk.J3 _ _ _ _ hB;obtain⟨vs,v1,v2⟩:=my (sz:=4) underlying128 zeroValue293 D iI dc hB1 ((n - 1)*4) 1 (cap - (n - 1)) om (by rw[size_setMany];omega);obtain⟨i,au,hi,hz,h1,h2,h3⟩:=AI.i;obtain⟨S1,S2,S3⟩:=gi (λj u hu=>hsu.ce AD D j u hu) hsu.one (show ∀ j,j<news.length->(w.drew.cell? ⟨g,0+k*4+j,E⟩).isSome=Q/\w.drew.frozen? ⟨g,0+k*4+j,E⟩=z from λj hj=>by
  rw[aZ];exact⟨by show(w.cell? _).isSome=Q;rw[hB.ce,cO om];rfl,Bk.fr hB _⟩)
 have FIN:=H (show Rw Sub.cs 293 4 ((w.drew.setCells g (k*4) news).setCells g ((n - 1)*4) vs) b (Z (G ⟨g,0,E⟩) (n - 1) cap) (L.take k++L.drop (k+1))/\w.grownBy ((w.drew.setCells g (k*4) news).setCells g ((n - 1)*4) vs) (G g) by
  obtain⟨r1,r2⟩:=gB Sub.cs 4 (λ_=>rfl) L k;obtain⟨r3,r4⟩:=gB Sub.cs 4 (λ_=>rfl) L (k+1);have hl:k*4+news.length=(n - 1)*4:=om;obtain⟨t1,t2⟩:=kG news (k*4) cur om;obtain⟨t3,_⟩:=kG vs ((n - 1)*4) (setMany cur (k*4) news) (by rw[size_setMany];omega);have hfl:(L.take k++L.drop (k+1)).flatMap Sub.cs=(L.flatMap Sub.cs).take (k*4)++news:=by rw[bB,r1,r4,hnews]
  have hll:(L.take k++L.drop (k+1)).length=n - 1:=by simp;omega
  refine⟨?_,mC _ _ _ (mC _ _ _ ⟨D,D,D,aB _,λ_ _ _=>rfl⟩)⟩;unfold Rw;rw[hll,hfl];obtain⟨g',hgg,hbg,_⟩:=h.at (f:=Sub.cs) (λ_=>rfl) k om;injection hgg with e
  injection e with e
  subst e;refine⟨by rw[aU,aK];have:=h.1;omega,.inr ⟨g,cap,_,D,hbg,Bk.J3 _ _ _ _ hB1,om,eQ,by rw[size_setMany,size_setMany];exact hs,?_⟩⟩;rw[t3,<-hl,t2,<-ht,du,cM om])
 clear h hB hs ht hsl hsu hnews hB1 hAD hnl;have i1:(0:Int)<=(k:Int):=om;have i2:(k:Int)+1<=(n:Int):=om;have i3:(0:Int)<=(k:Int)+1:=om;have i4:(k:Int)<=(k:Int)+1:=om;have i5:(n:Int)<=cap:=om;have i6:(k:Int)<=cap:=om;have e1:((k:Int)==(k:Int)+1)=z:=by rw[aX];omega
 have mixed:prog.follows Departure.mixedOrders=Q:=kr
 go_enter func330,ntmps330
 go_wp2_with fail
 go_region_law_o (refine step_append_room D (.tmp 22) (.tmp 25) 128 D 293 i 4 underlying128 hi h1 g 0 k cap jk AD (n - (k+1)) (cap - (k+1)) news jk hnl2 S1 S2 om S3 ?_)
 clear hAD2 hnl2 mixed hi hz;obtain⟨q,hq⟩:=fe (n - 1);rw[show k+(n - (k+1))=q by omega];rw[<-hq] at v2 FIN;have j1:(0:Int)<=(q:Int):=om;have j2:(q:Int)<=n:=om;have j3:¬cap=q:=om;have j4:n - q=1:=om;have j5:(q:Int)<=cap:=om;replace hq:=H hq;generalize w.drew.setCells g (k*4) news=W1 at*;simp only[Act.put,eh,cU,dx,List.setIfInBounds_toArray,eA]
 go_wp2_with fail
 obtain rfl:=hq.out;go_ret;exact⟨D,FIN⟩
theorem Gk:∀ {L:List Sub} {a b:ay} (t:Int) (hk:gU (Sub.ou a b) L<L.length),yV L a b t=L.take (gU (Sub.ou a b) L)++((if(L[gU (Sub.ou a b) L]).a<t then [(⟨(L[gU (Sub.ou a b) L]).w,(L[gU (Sub.ou a b) L]).u,(L[gU (Sub.ou a b) L]).a,t⟩:Sub)] else [])++L.drop (gU (Sub.ou a b) L+1))
 | [],_,_,_,hk=>by simp at hk
 | x::r,a,b,t,hk=>by
   by_cases h:Sub.ou a b x=Q
   ·have e:gU (Sub.ou a b) (x::r)=0:=by unfold gU;rw[aA h]
    simp only[e,yV,h,if_true,List.take_zero,bO,cU,aZ,cn,cW]
    split<;>rfl
   ·have e:gU (Sub.ou a b) (x::r)=gU (Sub.ou a b) r+1:=by simp only[gU,az h]
    have hk':gU (Sub.ou a b) r<r.length:=by rw[e] at hk;simpa using hk
    have ih:=Gk (L:=r) (a:=a) (b:=b) t hk';rw[show yV (x::r) a b t=if Sub.ou a b x then(if x.a<t then⟨x.w,x.u,x.a,t⟩::r else r) else x::yV r a b t from rfl,az h,ih];simp only[e,cK,bq,dx,cn]
theorem Gr (a b)(t:Int)(L)(v)(b0:Nat)(w)(h:Rw Sub.cs 293 4 w b0 v L)(hf:yu L a b=Q)(hn:L.length<=1000):
 Calls prog 263 #[v,mj a b,I J t] w λe' w'=>∃ v',e'= .returned (.tuple #[v',av])/\Rw Sub.cs 293 4 w' w.heap.size v' (yV L a b t)/\Bl w w':=by
 have FO:=λW (hb:Bl w W)=>Ab a b L v b0 W (h.bl hb) om;have hk:gU (Sub.ou a b) L<L.length:=by
  have:=wI (Sub.ou a b) L;unfold yu at hf;rw[hf] at this;have:=bo this;unfold lH at this
  split at this
  ·assumption
  ·omega
 have hI:lH (Sub.ou a b) L=(gU (Sub.ou a b) L:Nat):=by unfold lH;rw[aA hk]
 rw[hI] at FO;have hrow:=Gk t hk;have CL:=H (λW (hb:Bl w W)=>clnSubs sub_one W (h.bl hb) om);obtain⟨K,hK⟩:=fe (gU (Sub.ou a b) L);obtain⟨x,hx⟩:=fe (L[gU (Sub.ou a b) L]);have HK:=H (show ∃ hk:K<L.length,L[K]=x by subst hK;exact⟨hk,hx.symm⟩);rw[<-hx,<-hK] at hrow;rw[<-hK] at hk FO;replace hrow:=H hrow;unfold mj at FO ⊢;obtain⟨A,cap,rfl,hnc,hcap⟩:=h.form;obtain⟨m,hm,HM⟩:=nh L.length;rw[<-hm] at hn hnc hk FO CL ⊢;replace FO:=H FO;clear h hm hf hI hK hx;have NN:=H (λW=>kl ⟨x.a,t⟩ W);unfold fm.v at NN;have i1:(0:Int)<=(K:Int):=om;have i2:(K:Int)<m:=om;have i3:¬(K:Int)<0:=om;have i4:IntKind.i64.wrap ((K:Int)+1)=(K:Int)+1:=jh om;obtain⟨X,V,hX,hV,BX,HB,HXw,SV⟩:=gC w #[C a,C b] 117;obtain⟨x0,x1⟩:=ni BX;have hb0:=br V
 go_enter func263,ntmps263
 go_upto_region 1 with fail
 rw[<-hV,<-hX];clear hV hX
 go_upto_region 5 with(first | (go_at_call 329;refine qx (FO _ HB) λw1 hb1=>?_) | (go_at_call 204;refine aaj (CL _ (HB.ca hb1)) λv2 w2 hr2 hb2=>?_))
 obtain⟨HB2,HB1⟩:=eN ((HB.ca hb1).ca hb2) (HB.ca hb1);obtain⟨A2,cap2,rfl,hnc2,hcap2⟩:=hr2.form;obtain⟨hk0,hkx⟩:=HK.out;obtain⟨g2,rfl,hg2,hl2,hc2⟩:=hr2.at (f:=Sub.cs) (λ_=>rfl) K hk0;obtain⟨cur2,hB2,hs2,ht2⟩:=hr2.cur;rw[hkx] at hc2;have s2:w2.cell? ⟨g2,K*4+2,E⟩=G (I J x.a):=hc2 2 dc;have s3:w2.cell? ⟨g2,K*4+3,E⟩=G (I J x.b):=hc2 3 dc;have z3:=hB2.fr (K*4+3);have HL3:=H (show Rw Sub.cs 293 4 (w2.setCell ⟨g2,K*4+3,E⟩ (I J t)) w.heap.size (Z (G ⟨g2,0,E⟩) m cap2) (L.set K ⟨x.w,x.u,x.a,t⟩) by
  refine Rw.mk' (λ_=>rfl) (hB2.set (K*4+3) (I J t)) (by simpa using hs2) abl fT hcap2 (by have:=HB1.size;omega) λk hk j hj=>?_;rw[cJ] at hk;have hle:k*4+j<cur2.size:=by have:=HM.out;omega
  have hcur:cur2[k*4+j]?=(Sub.cs L[k])[j]?:=by
   obtain⟨g3,h3,_,_,h4⟩:=hr2.at (f:=Sub.cs) (λ_=>rfl) k hk;injection h3 with h3
   injection h3 with h3
   subst h3;rw[<-h4 j hj,hB2.ce]
  rw[dy,bW];by_cases hkk:K=k
  ·subst hkk;rw[aA D]
   match j,hj with
   | 0,_=>rw[az om,hcur,hkx];rfl
   | 1,_=>rw[az om,hcur,hkx];rfl
   | 2,_=>rw[az om,hcur,hkx];rfl
   | 3,_=>rw[aA D,aA hle];rfl
  ·rw[az hkk,az om,hcur])
 have d2:=(hB2.set (K*4+3) (I J t)).ce (K*4+2);rw[bW,az om,<-hB2.ce,s2] at d2;have d3:=(hB2.set (K*4+3) (I J t)).ce (K*4+3);rw[bW,aA D,aA fT] at d3;have hgw:w.heap.size<=g2:=by have:=HB1.size;omega
 obtain⟨HB3,DE,ES⟩:=gi (HB2.st (p:=⟨g2,K*4+3,E⟩) hgw (I J t)) (λW (hr:Rw Sub.cs 293 4 W w.heap.size (Z (G ⟨g2,0,E⟩) m cap2) (L.set K ⟨x.w,x.u,x.a,t⟩))=>Uh _ _ g2 m cap2 K W hr hk abl hn) (show(L.set K ⟨x.w,x.u,x.a,t⟩).take K++(L.set K ⟨x.w,x.u,x.a,t⟩).drop (K+1)=L.take K++L.drop (K+1)/\L.set K ⟨x.w,x.u,x.a,t⟩=L.take K++([⟨x.w,x.u,x.a,t⟩]++L.drop (K+1)) by
  constructor
  ·rw[List.take_set_of_le (aB _),List.drop_set_of_lt om]
  ·rw[List.set_eq_take_append_cons_drop,aA hk0];rfl)
 rw[<-HM.out];clear hB2 hkx hk0 s2
 go_upto_region 6 with fail
 generalize w2.setCell ⟨g2,K*4+3,E⟩ (I J t)=W3 at*;by_cases hz:x.a<t
 ·have e1:(⟨x.a,t⟩:fm).ok=Q:=aF hz;rw[e1] at NN;replace NN:=H NN;rw[aA hz] at hrow;replace hz:=H hz;clear e1
  go_wp2_with (go_at_call 193;refine qx (NN _) λw5 hb5=>?_)
  go_ret2
  refine⟨_,D,?_,HB3.ca hb5⟩;rw[hrow.out,<-ES.out.2];exact HL3.bl hb5
 ·have e1:(⟨x.a,t⟩:fm).ok=z:=aC hz;rw[e1] at NN;replace NN:=H NN;rw[az hz] at hrow;replace hz:=H hz;clear e1
  go_wp2_with (first | (go_at_call 193;refine qx (NN _) λw5 hb5=>?_) | (go_at_call 330;refine(DE _ (HL3.bl hb5)).mono ?_;rintro e w6 ⟨rfl,hr6,hg6⟩))
  go_ret2
  refine⟨_,D,?_,(HB3.ca hb5).gr hg6 λk hk=>aba⟩;rw[hrow.out,bO,<-ES.out.1];exact hr6
end Tp
namespace Tp
open Go Go.RowKit Go.Lib
open Ds.DkM (bf gj ij gQ mY iZ)
theorem QF (a b):qg a b<0↔bf a b=Q:=by
 unfold qg
 split
 ·simp[*]
 ·rename_i h;have h':bf a b=z:=by simpa using h
  rw[h']
  split<;>simp
theorem LR (a b):qg a b=0↔a=b:=by
 unfold qg;by_cases h:a=b
 ·subst h;simp[gj]
 ·split
  ·rename_i h1;simp[h]
  ·simp[h]
theorem WJ (x)(w):aai 196 #[.agg (UC.cs x).toArray] w (C x.u):=by
 obtain⟨x0,x1,x2,x3⟩:=x;show Calls prog 196 #[.agg #[C x0,Z x1 x2 x3]] w _
 go_enter func196,ntmps196
 go_wp2
 go_ret;exact⟨D,gl _ _⟩
theorem Oc(x:UC)(u:ay)(W:World)(h0:W.cell? ⟨X,0,E⟩=G (.func (.func 196) #[] #[])):
 aai 255 #[.agg #[C x.u,Z x.A x.n x.c],C u,.pointer (G ⟨X,0,E⟩)] W (I J (qg x.u u)):=by
 obtain⟨NM,NC⟩:=eN (λW=>WJ x W) (λW=>yd x.u u W);obtain⟨x0,x1,x2,x3⟩:=x;have g0:=(gl W (.cells #[C x0,Z x1 x2 x3] 282)).ce h0;clear h0
 go_enter func255,ntmps255
 go_wp2_with (first | (go_at_call 196;refine qx (NM _) λw1 hb1=>?_) | (go_at_call 256;refine QS (NC _) ?_))
 go_ret;exact⟨D,(gl _ _).ca hb1⟩
theorem Oz (x)(w):aai 338 #[.agg (gb.cs x).toArray] w (C x.u):=by
 obtain⟨x0,x1⟩:=x;show Calls prog 338 #[.agg #[C x0,I J x1]] w _
 go_enter func338,ntmps338
 go_wp2
 go_ret;exact⟨D,gl _ _⟩
theorem Od(x:gb)(u:ay)(W:World)(h0:W.cell? ⟨X,0,E⟩=G (.func (.func 338) #[] #[])):
 aai 385 #[.agg #[C x.u,I J x.t],C u,.pointer (G ⟨X,0,E⟩)] W (I J (qg x.u u)):=by
 obtain⟨NM,NC⟩:=eN (λW=>Oz x W) (λW=>yd x.u u W);obtain⟨x0,x1⟩:=x;have g0:=(gl W (.cells #[C x0,I J x1] 244)).ce h0;clear h0
 go_enter func385,ntmps385
 go_wp2_with (first | (go_at_call 338;refine qx (NM _) λw1 hb1=>?_) | (go_at_call 256;refine QS (NC _) ?_))
 go_ret;exact⟨D,(gl _ _).ca hb1⟩
theorem U9:(∀ (L:List UC) (u:ay) (v:Value) (b X K:Nat) (w:World) (h:Rw UC.cs 282 2 w b v L) (hX:w.cell? ⟨X,0,E⟩=G (.func (.func 196) #[] #[])) (hn:L.length<=1000) (hKn:K<=L.length) (h1:∀ i (hi:i<L.length),i<K->bf (L[i]).u u=Q) (h2:∀ i (hi:i<L.length),K<=i->bf (L[i]).u u=z),aai 254 #[v,C u,.func (.func 255) #[] #[.pointer (G ⟨X,0,E⟩)]] w (.tuple #[I J K,.bool (decide (∃ hk:K<L.length,(L[K]).u=u))]))/\
 (∀ (L:List gb) (u:ay) (v:Value) (b X K:Nat) (w:World) (h:Rw gb.cs 244 2 w b v L) (hX:w.cell? ⟨X,0,E⟩=G (.func (.func 338) #[] #[])) (hn:L.length<=1000) (hKn:K<=L.length) (h1:∀ i (hi:i<L.length),i<K->bf (L[i]).u u=Q) (h2:∀ i (hi:i<L.length),K<=i->bf (L[i]).u u=z),aai 384 #[v,C u,.func (.func 385) #[] #[.pointer (G ⟨X,0,E⟩)]] w (.tuple #[I J K,.bool (decide (∃ hk:K<L.length,(L[K]).u=u))])):=by
 refine⟨?_,?_⟩
 all_goals intro L u v b X K w h hX hn hKn h1 h2
 have tg:Tg 0:=⟨⟩;rotate_left;have tg:Tg 1:=⟨⟩;rotate_left
 all_goals
  obtain⟨A,cap,rfl,hnc,hcap⟩:=h.form;obtain⟨HR,HX,H1,H2⟩:=kB h hX h1 h2;obtain⟨n,hnn,HN⟩:=nh L.length;obtain⟨q,hq⟩:=fe (decide (∃ hk:K<L.length,(L[K]).u=u));rw[<-hq];replace hq:=H hq;rw[<-hnn] at hn hKn ⊢;clear h hX hnn
 focus
  go_enter func254,ntmps254
 rotate_left
 focus
  go_enter func384,ntmps384
 rotate_left
 all_goals
  go_wp2
  go_loopw [9,10] (λs t wr=>∃ i j:Nat,s= I J i/\t= I J j/\i<=K/\K<=j/\j<=n/\Bl w wr) (λs t _=>(intOf t).toNat - (intOf s).toNat)
  case atStart=>exact⟨0,n,D,D,aD _,hKn,aB _,Bl.eH⟩
  case round=>
   obtain⟨i,j,rfl,rfl,hi,hj,hjn,hb⟩:=hrel;by_cases hlt:i<j
   ·have i1:(i:Int)<j:=om;obtain⟨d,hd⟩:=fe ((i+j) / 2);have e1:((i:Int)+(j:Int)) / 2=(d:Int):=om;have hd1:i<=d:=om;have hd2:d<j:=om;have hd':d<L.length:=by rw[<-HN.out];omega
    first
     | have _:Tg 1:=tg
       obtain⟨g,rfl,_,_,c0,c1⟩:=HR.Cm (f:=gb.cs) (λ_=>rfl) d hd';have PC:=H (λW (hW:Bl w W)=>Od (X:=X) L[d] u W (hW.ce HX))
     | obtain⟨g,rfl,_,_,c0,c1⟩:=HR.Cm (f:=UC.cs) (λ_=>rfl) d hd'
       have PC:=H (λW (hW:Bl w W)=>Oc (X:=X) L[d] u W (hW.ce HX))
    obtain⟨HB,HC,HS⟩:=gi (λhh=>H1 d hd' hh) (λhh=>H2 d hd' hh) (QF (L[d]).u u);generalize L[d]=x at*;obtain⟨i2,i3⟩:=ln (k:=d) (m:=n) om;clear hd;by_cases hdk:d<K;have i4:qg x.u u<0:=HS.out.2 (HB hdk);rotate_left;have i4:¬qg x.u u<0:=by rw[HS.out,HC.out om];decide
    rotate_left
    all_goals
     generalize qg x.u u=y at*
     first
      | have _:Tg 1:=tg
        go_wp2_with (go_at_call 385;refine qx (PC _ ms) λw1 hb1=>?_)
      | go_wp2_with (go_at_call 255;refine qx (PC _ ms) λw1 hb1=>?_)
    refine⟨⟨d+1,j,eB,D,om,om,om,hb.ca hb1⟩,?_⟩;rotate_left;refine⟨⟨i,d,D,D,om,om,om,hb.ca hb1⟩,?_⟩;rotate_left
    all_goals
     simp[intOf];omega
   ·obtain rfl:i=K:=om;obtain rfl:j=i:=om;have i1:¬(j:Int)<j:=om;by_cases hk:j<n
    ·have hk':j<L.length:=by rw[<-HN.out];exact hk
     have hq':q=decide ((L[j]).u=u):=by rw[hq.out];simp[hk']
     first
      | have _:Tg 1:=tg
        obtain⟨g,rfl,_,_,c0,c1⟩:=HR.Cm (f:=gb.cs) (λ_=>rfl) j hk';have PC:=H (λW (hW:Bl w W)=>Od (X:=X) L[j] u W (hW.ce HX))
      | obtain⟨g,rfl,_,_,c0,c1⟩:=HR.Cm (f:=UC.cs) (λ_=>rfl) j hk'
        have PC:=H (λW (hW:Bl w W)=>Oc (X:=X) L[j] u W (hW.ce HX))
     have HS:=H (LR (L[j]).u u);generalize L[j]=x at*;obtain⟨i2,i3⟩:=ln (k:=j) (m:=n) om;replace hq':=H (show(qg x.u u==0)=q by rw[hq',cv,dq,aN];exact HS);generalize qg x.u u=y at*;clear hq
     first
      | have _:Tg 1:=tg
        go_wp2_with (go_at_call 385;refine qx (PC _ ms) λw1 hb1=>?_)
      | go_wp2_with (go_at_call 255;refine qx (PC _ ms) λw1 hb1=>?_)
     go_ret2
     exact⟨by rw[<-hq'.out];rfl,hb.ca hb1⟩
    ·have hq':=H (show q=z by rw[hq.out,aC];rintro⟨h,_⟩;rw[<-HN.out] at h;exact hk h);have i2:¬(j:Int)<n:=om;clear hq
     go_wp2_with fail
     go_ret2
     exact⟨by rw[hq'.out];rfl,hb⟩
theorem Gx (L)(u:ay)(v)(b K:Nat)(w)(h:Rw UC.cs 282 2 w b v L)(hn:L.length<=1000)(hKn:K<=L.length)
 (h1:∀ i (hi:i<L.length),i<K->bf (L[i]).u u=Q) (h2:∀ i (hi:i<L.length),K<=i->bf (L[i]).u u=z):
 aai 195 #[v,C u,.func (.func 196) #[] #[]] w (.tuple #[I J K,.bool (decide (∃ hk:K<L.length,(L[K]).u=u))]):=by
 obtain⟨X,V,hX,hV,BX,HB,HXw,SV⟩:=gC w #[.func (.func 196) #[] #[]] 283;have x0:=BX.all 0 D;have BS:=H (U9.1 L u v b X K V (h.bl HB) (BX.ce 0) hn hKn h1 h2);clear h
 go_enter func195,ntmps195
 go_upto_region 1 with fail
 rw[<-hV,<-hX];clear hV hX
 go_wp2_with (go_at_call 254;refine qx BS λw1 hb1=>?_)
 go_ret2
 exact⟨D,HB.ca hb1⟩
theorem Wn (L)(u:ay)(v)(b K:Nat)(w)(h:Rw gb.cs 244 2 w b v L)(hn:L.length<=1000)(hKn:K<=L.length)
 (h1:∀ i (hi:i<L.length),i<K->bf (L[i]).u u=Q) (h2:∀ i (hi:i<L.length),K<=i->bf (L[i]).u u=z):
 aai 337 #[v,C u,.func (.func 338) #[] #[]] w (.tuple #[I J K,.bool (decide (∃ hk:K<L.length,(L[K]).u=u))]):=by
 obtain⟨X,V,hX,hV,BX,HB,HXw,SV⟩:=gC w #[.func (.func 338) #[] #[]] 419;have x0:=BX.all 0 D;have BS:=H (U9.2 L u v b X K V (h.bl HB) (BX.ce 0) hn hKn h1 h2);clear h
 go_enter func337,ntmps337
 go_upto_region 1 with fail
 rw[<-hV,<-hX];clear hV hX
 go_wp2_with (go_at_call 384;refine qx BS λw1 hb1=>?_)
 go_ret2
 exact⟨D,HB.ca hb1⟩
theorem fI:(∀ (l:List Value) (d:List Deferred) (t:Tmp) (v:Value),(⟨l.toArray,d⟩:Act).put (G t) v=⟨(l.set t v).toArray,d⟩)/\(∀ (a:Act) (v:Value),a.put E v=a)/\(∀ (x:Value) (l:List Value) (v:Value),(x::l).set 0 v=v::l)/\(∀ (x:Value) (l:List Value) (i:Nat) (v:Value),(x::l).set (i+1) v=x::l.set i v):=
 ⟨λl d t v=>by simp[Act.put],λ_ _=>rfl,λ_ _ _=>rfl,λ_ _ _ _=>rfl⟩
theorem fJ {T aj R an:Prop}(f:T->aj->R->an)(t:T)(c:aj)(r:T->R):an:=f t c (r t)
theorem tq {T aj S R an:Prop}(f:T->(aj->S)->R->an)(t:T)(s:S)(r:T->S->R):an:=f t (λ_=>s) (r t s)
section
variable {P:Program}{ops:Array Oper}{ar:Exit->Act->World->Prop}{md:Region.Mode}{T S:World->Prop}{B:List Nat}
def clean (B:List Nat)(listed:Array Bool):Prop:=∀ j∈B,listed.getD j Q=z
def fA (P:Program)(md:Region.Mode)(ops:Array Oper)(ar:Exit->Act->World->Prop)(T S:World->Prop)(B:List Nat):Nat->Array Bool->Act->World->Prop
 | 0,listed,a,w=>Region.ready md ops listed=[]/\ar .normal a w
 | fuel+1,listed,a,w=>
  (Region.ready md ops listed=[]->ar .normal a w)/\
  ∀ i∈Region.ready md ops listed,wpOp P ops ar i (λa' w'=>T w'/\(clean B (listed.setIfInBounds i Q)->S w')/\fA P md ops ar T S B fuel (listed.setIfInBounds i Q) a' w') a w
theorem wZ:∀ (fuel:Nat) (listed:Array Bool) (a:Act) (w:World),fA P md ops ar T S B fuel listed a w->wpAny P md ops ar fuel listed a w
 | 0,_,_,_,h=>h
 | fuel+1,_,_,_,h=>⟨h.1,λi hi=>wpOp_mono (λa' w' h'=>wZ fuel _ a' w' h'.2.2) (h.2 i hi)⟩
def waits (md:Region.Mode)(ops:Array Oper)(B:List Nat)(i:Nat):Bool:=B.all λj=>match ops[j]? with
 | some o=>o.after.any λe=>Region.binds md e&&(e.on==i)
 | none=>Q
theorem AB{oi}{v:Value}(hi:ops[i]?=G oi)(hsel:∀ (j:Nat) (o:Oper) cs b,ops[j]?=G o->o.op≠ .select cs b)
 (hQ:∀ c a w,ar (.panic c) (a.put oi.dst v) w->ar (.panic c) a w) (hB:waits md ops B i=Q) (hiB:i∉B):
 ∀ (fuel:Nat) (listed:Array Bool) (a:Act) (w:World),
  (∀ j oj,ops[j]?=G oj->j≠i->listed.getD j Q=z->(∀ e∈oj.after,Region.binds md e=Q->e.on≠i)->oi.apart ops oj=Q)->
  i∈Region.ready md ops listed->YieldsIf P ops S oi v a->clean B listed->T w->S w->
  fA P md ops ar T S B fuel (listed.setIfInBounds i Q) (a.put oi.dst v) w->fA P md ops ar T S B (fuel+1) listed a w:=by
 intro fuel
 induction fuel with
 | zero=>
  intro listed a w _ hr hy hc hT hS ah;refine⟨λh=>(by rw[h] at hr;cases hr),λj hj=>?_⟩;by_cases hji:j=i
  ·subst hji;exact hy.wpOp hi hS ⟨hT,λ_=>hS,ah⟩
  ·have:=ready_mono hj hji;rw[ah.1] at this;cases this
 | succ fuel ih=>
  intro listed a w hfree hr hy hc hT hS ah;refine⟨λh=>(by rw[h] at hr;cases hr),λj hj=>?_⟩;by_cases hji:j=i
  ·subst hji;exact hy.wpOp hi hS ⟨hT,λ_=>hS,ah⟩
  ·have h1:=ah.2 j (ready_mono hj hji);obtain⟨hjun,oj,hoj,hall⟩:=mem_ready.1 hj;have hnot:∀ e∈oj.after,Region.binds md e=Q->e.on≠i:=λe he hb heq=>by
    exact ra
   have hjB:j∉B:=λhm=>by
    have:=bJ.1 hB j hm;rw[hoj] at this;obtain⟨e,he,hb⟩:=Array.any_eq_true'.1 this;rw[aM,dq] at hb;exact hnot e he hb.1 hb.2
   have h2:=wpOp_putIf hoj (hfree j oj hoj hji hjun hnot) (λcs b=>hsel i oi cs b hi) (λcs b=>hsel j oj cs b hoj) hQ hy h1;have hfree':∀ k ok,ops[k]?=G ok->k≠i->(listed.setIfInBounds j Q).getD k Q=z->
    (∀ e∈ok.after,Region.binds md e=Q->e.on≠i)->oi.apart ops ok=Q:=λk ok hk hki hun hno=>by
    refine hfree k ok hk hki ?_ hno;by_cases hjk:j=k
    ·subst hjk;exact hjun
    ·rw[getD_set_ne Q hjk] at hun;exact hun
   have hc':clean B (listed.setIfInBounds j Q):=λk hk=>by
    rw[getD_set_ne Q (λ(e:j=k)=>hjB (by rw[e];exact hk))];exact hc k hk
   have hc2:clean B ((listed.setIfInBounds i Q).setIfInBounds j Q):=λk hk=>by
    rw[getD_set_ne Q (λ(e:j=k)=>hjB (by rw[e];exact hk)),getD_set_ne Q (λ(e:i=k)=>hiB (by rw[e];exact hk))];exact hc k hk
   refine wpOp_mono (λa' w' h3=>⟨h3.2.1,λ_=>h3.2.2.1 hc2,ih (listed.setIfInBounds j Q) a' w' hfree' (ready_mono hr (Ne.symm hji)) h3.1 hc' h3.2.1 (h3.2.2.1 hc2) ?_⟩) h2;rw[Array.setIfInBounds_comm _ _ hji];exact h3.2.2.2
theorem CE{oi}{v:Value}{listed:Array Bool}{a:Act}(hi:ops[i]?=G oi)
 (hs:Region.noSelect ops=Q) (hf:Region.free md ops listed i=Q) (hr:(Region.ready md ops listed).contains i=Q)
 (hQ:∀ c a w,ar (.panic c) (a.put oi.dst v) w->ar (.panic c) a w) (hB:waits md ops B i=Q) (hiB:B.contains i=z) (hc:(B.all λj=>listed.getD j Q==z)=Q) (hy:YieldsIf P ops S oi v a) (hS:T w/\S w)
 (h:fA P md ops ar T S B fuel (listed.setIfInBounds i Q) (a.put oi.dst v) w):fA P md ops ar T S B (fuel+1) listed a w:=
 AB hi (Region.noSelect_spec hs) hQ hB (by simpa using hiB) fuel listed a w (Region.free_spec hi hf) (by simpa using hr) hy (λj hj=>by simpa using bJ.1 hc j hj) hS.1 hS.2 h
theorem yS{oi}{v:Value}(hi:ops[i]?=G oi)(hsel:∀ (j:Nat) (o:Oper) cs b,ops[j]?=G o->o.op≠ .select cs b)
 (hQ:∀ c a w,ar (.panic c) (a.put oi.dst v) w->ar (.panic c) a w) (hiB:i∉B):
 ∀ (fuel:Nat) (listed:Array Bool) (a:Act) (w:World),
  (∀ j oj,ops[j]?=G oj->j≠i->listed.getD j Q=z->(∀ e∈oj.after,Region.binds md e=Q->e.on≠i)->oi.apart ops oj=Q)->
  i∈Region.ready md ops listed->YieldsIf P ops (λ_=>True) oi v a->T w->(clean B listed->S w)->
  fA P md ops ar T S B fuel (listed.setIfInBounds i Q) (a.put oi.dst v) w->fA P md ops ar T S B (fuel+1) listed a w:=by
 intro fuel;have back:∀ {l:Array Bool},clean B (l.setIfInBounds i Q)->clean B l:=λ{l} h k hk=>by
  have:=h k hk
  rwa[getD_set_ne Q (λ(e:i=k)=>hiB (by rw[e];exact hk))] at this
 have forth:∀ {l:Array Bool},clean B l->clean B (l.setIfInBounds i Q):=λ{l} h k hk=>by
  rw[getD_set_ne Q (λ(e:i=k)=>hiB (by rw[e];exact hk))];exact h k hk
 induction fuel with
 | zero=>
  intro listed a w _ hr hy hT hS ah;refine⟨λh=>(by rw[h] at hr;cases hr),λj hj=>?_⟩;by_cases hji:j=i
  ·subst hji;exact hy.wpOp hi trivial ⟨hT,λh=>hS (back h),ah⟩
  ·have:=ready_mono hj hji;rw[ah.1] at this;cases this
 | succ fuel ih=>
  intro listed a w hfree hr hy hT hS ah;refine⟨λh=>(by rw[h] at hr;cases hr),λj hj=>?_⟩;by_cases hji:j=i
  ·subst hji;exact hy.wpOp hi trivial ⟨hT,λh=>hS (back h),ah⟩
  ·have h1:=ah.2 j (ready_mono hj hji);obtain⟨hjun,oj,hoj,hall⟩:=mem_ready.1 hj;have hnot:∀ e∈oj.after,Region.binds md e=Q->e.on≠i:=λe he hb heq=>by
    exact ra
   have h2:=wpOp_putIf hoj (hfree j oj hoj hji hjun hnot) (λcs b=>hsel i oi cs b hi) (λcs b=>hsel j oj cs b hoj) hQ hy h1;have hfree':∀ k ok,ops[k]?=G ok->k≠i->(listed.setIfInBounds j Q).getD k Q=z->
    (∀ e∈ok.after,Region.binds md e=Q->e.on≠i)->oi.apart ops ok=Q:=λk ok hk hki hun hno=>by
    refine hfree k ok hk hki ?_ hno;by_cases hjk:j=k
    ·subst hjk;exact hjun
    ·rw[getD_set_ne Q hjk] at hun;exact hun
   refine wpOp_mono (λa' w' h3=>?_) h2;have h5:clean B (listed.setIfInBounds j Q)->S w':=λh=>h3.2.2.1 (by
    rw[<-Array.setIfInBounds_comm _ _ hji];exact forth h)
   refine⟨h3.2.1,h5,ih (listed.setIfInBounds j Q) a' w' hfree' (ready_mono hr (Ne.symm hji)) h3.1 h3.2.1 h5 ?_⟩;rw[Array.setIfInBounds_comm _ _ hji];exact h3.2.2.2
theorem lJ{oi}{v:Value}{listed:Array Bool}{a:Act}(hi:ops[i]?=G oi)
 (hs:Region.noSelect ops=Q) (hf:Region.free md ops listed i=Q) (hr:(Region.ready md ops listed).contains i=Q)
 (hQ:∀ c a w,ar (.panic c) (a.put oi.dst v) w->ar (.panic c) a w) (hiB:B.contains i=z) (hy:YieldsIf P ops (λ_=>True) oi v a) (hS:T w/\(clean B listed->S w))
 (h:fA P md ops ar T S B fuel (listed.setIfInBounds i Q) (a.put oi.dst v) w):fA P md ops ar T S B (fuel+1) listed a w:=
 yS hi (Region.noSelect_spec hs) hQ (by simpa using hiB) fuel listed a w (Region.free_spec hi hf) (by simpa using hr) hy hS.1 hS.2 h
def Hs (P:Program)(md:Region.Mode)(ops:Array Oper)(ar:Exit->Act->World->Prop)(T S:World->Prop)(B:List Nat)(fuel:Nat)(listed:Array Bool)(a:Act)(w:World)(rs:List Nat):Prop:=
 ∀ i∈rs,wpOp P ops ar i (λa' w'=>T w'/\(clean B (listed.setIfInBounds i Q)->S w')/\fA P md ops ar T S B fuel (listed.setIfInBounds i Q) a' w') a w
theorem Hs.nil{listed}{a}:Hs P md ops ar T S B fuel listed a w []:=λ_ h=>by cases h
theorem Hs.cons{listed:Array Bool}{a:Act}{o}(ho:ops[i]?=G o)
 (h:∀ K':Act->World->Prop,Shut (∀ a w,T w->(clean B (listed.setIfInBounds i Q)->S w)->fA P md ops ar T S B fuel (listed.setIfInBounds i Q) a w->K' a w)->if Region.wanted o (yielded ops a.tmps)=Q then Oper.wp P o a w K' ar else K' (a.put o.dst undef) w)
 (hs:Hs P md ops ar T S B fuel listed a w rs):Hs P md ops ar T S B fuel listed a w (i::rs):=λj hj=>by
 rcases aE.1 hj with rfl | hj
 ·exact wpOp_step ho (λK' hK=>h K' (λa w hT hS hW=>hK a w ⟨hT,hS,hW⟩))
 ·exact hs j hj
theorem py{listed}{a:Act}(hr:Region.ready md ops listed=rs)(hne:rs≠[])
 (h:Hs P md ops ar T S B fuel listed a w rs):fA P md ops ar T S B (fuel+1) listed a w:=
 ⟨λh0=>absurd (hr▸h0) hne,hr▸h⟩
theorem CF {listed}{a}(hr:Region.ready md ops listed=[])(h:ar .normal a w):
 ∀ fuel,fA P md ops ar T S B fuel listed a w
 | 0=>⟨hr,h⟩
 | _+1=>⟨λ_=>h,by rw[hr];simp⟩
theorem Cz (B:List Nat){a:Act}(hm:P.follows .mixedOrders=Q)(hS:T w.drew/\S w.drew)
 (h:T w.drew/\S w.drew->fA P .any ops ar T S B ops.size (Array.replicate ops.size z) a w.drew):(Code.region id ops Q).wp P ar a w:=
 wp_region_any hm (wZ _ _ _ _ (h hS))
theorem eI {B:List Nat}{l:Array Bool}{p:Prop}(hj:B.contains j=Q)(hl:l.getD j Q=Q):clean B l->p:=λh=>by
 have:=h j gZ;rw[hl] at this;cases this
end
section
variable {P:Program}{ops:Array Oper}{ar:Exit->Act->World->Prop}{md:Region.Mode}{T S:World->Prop}{B:List Nat}{fuel:Nat}{listed:Array Bool}{a a':Act}{w:World}
theorem tk0 (i:Nat){oi:Oper}{v:Value}(hT:T w)(hS:S w)(h:fA P md ops ar T S B fuel (listed.setIfInBounds i Q) a' w)
 (hi:ops[i]?=G oi:=by rfl) (hs:Region.noSelect ops=Q:=by kernel_rfl) (hf:Region.free md ops listed i=Q:=by kernel_rfl) (hr:(Region.ready md ops listed).contains i=Q:=by kernel_rfl)
 (hQ:∀ c a w,ar (.panic c) (a.put oi.dst v) w->ar (.panic c) a w:=by exact λ_ _ _ h=>h) (hiB:B.contains i=z:=by kernel_rfl)
 (hy:YieldsIf P ops (λ_=>True) oi v a:=by refine aG ⟨by rfl,?_⟩;intro wx hSx;go_simp;try with_reducible rfl)
 (ha:a.put oi.dst v=a':=by first | (simp only[eh,cU,dx,fI];rfl) | rfl):fA P md ops ar T S B (fuel+1) listed a w:=by
 subst ha;exact lJ (i:=i) hi hs hf hr hQ hiB hy ⟨hT,λ_=>hS⟩ h
theorem tz (i:Nat){oi:Oper}{v:Value}(hT:T w)(hS:clean B listed->S w)(h:fA P md ops ar T S B fuel (listed.setIfInBounds i Q) a' w)
 (hi:ops[i]?=G oi:=by rfl) (hs:Region.noSelect ops=Q:=by kernel_rfl) (hf:Region.free md ops listed i=Q:=by kernel_rfl) (hr:(Region.ready md ops listed).contains i=Q:=by kernel_rfl)
 (hQ:∀ c a w,ar (.panic c) (a.put oi.dst v) w->ar (.panic c) a w:=by exact λ_ _ _ h=>h) (hiB:B.contains i=z:=by kernel_rfl)
 (hy:YieldsIf P ops (λ_=>True) oi v a:=by refine aG ⟨by rfl,?_⟩;intro wx hSx;go_simp;try with_reducible rfl)
 (ha:a.put oi.dst v=a':=by first | (simp only[eh,cU,dx,fI];rfl) | rfl):fA P md ops ar T S B (fuel+1) listed a w:=by
 subst ha;exact lJ (i:=i) hi hs hf hr hQ hiB hy ⟨hT,hS⟩ h
theorem tko (i:Nat){oi:Oper}(hT:T w)(hS:clean B listed->S w)(h:fA P md ops ar T S B fuel (listed.setIfInBounds i Q) a' w)
 (hi:ops[i]?=G oi:=by rfl) (hs:Region.noSelect ops=Q:=by kernel_rfl) (hf:Region.free md ops listed i=Q:=by kernel_rfl) (hr:(Region.ready md ops listed).contains i=Q:=by kernel_rfl)
 (hQ:∀ c a w,ar (.panic c) (a.put oi.dst undef) w->ar (.panic c) a w:=by exact λ_ _ _ h=>h) (hiB:B.contains i=z:=by kernel_rfl)
 (hy:YieldsIf P ops (λ_=>True) oi undef a:=by exact aI ⟨by rfl,D⟩)
 (ha:a.put oi.dst undef=a':=by first | (simp only[eh,cU,dx,fI];rfl) | rfl):fA P md ops ar T S B (fuel+1) listed a w:=by
 subst ha;exact lJ (i:=i) hi hs hf hr hQ hiB hy ⟨hT,hS⟩ h
theorem tk (i:Nat){oi:Oper}{v:Value}(hT:T w)(hS:S w)(h:fA P md ops ar T S B fuel (listed.setIfInBounds i Q) a' w)
 (hi:ops[i]?=G oi:=by rfl) (hs:Region.noSelect ops=Q:=by kernel_rfl) (hf:Region.free md ops listed i=Q:=by kernel_rfl) (hr:(Region.ready md ops listed).contains i=Q:=by kernel_rfl)
 (hQ:∀ c a w,ar (.panic c) (a.put oi.dst v) w->ar (.panic c) a w:=by exact λ_ _ _ h=>h) (hB:waits md ops B i=Q:=by kernel_rfl) (hiB:B.contains i=z:=by kernel_rfl) (hc:(B.all λj=>listed.getD j Q==z)=Q:=by kernel_rfl)
 (hy:YieldsIf P ops S oi v a:=by refine aG ⟨by rfl,?_⟩;intro wx hSx;go_simp;try with_reducible rfl)
 (ha:a.put oi.dst v=a':=by first | (simp only[eh,cU,dx,fI];rfl) | rfl):fA P md ops ar T S B (fuel+1) listed a w:=by
 subst ha;exact CE (i:=i) hi hs hf hr hQ hB hiB hc hy ⟨hT,hS⟩ h
theorem zB (rs:List Nat)(h:Hs P md ops ar T S B fuel listed a w rs)(hr:Region.ready md ops listed=rs:=by kernel_rfl)(hne:rs≠[]:=by simp):fA P md ops ar T S B (fuel+1) listed a w:=
 py hr hne h
abbrev BS (P:Program)(md:Region.Mode)(ops:Array Oper)(ar:Exit->Act->World->Prop)(T S:World->Prop)(B:List Nat)(fuel:Nat)(listed:Array Bool)(a:Act)(w:World)(i:Nat)(o:Oper):Prop:=
 ∀ K':Act->World->Prop,Shut (∀ a w,T w->(clean B (listed.setIfInBounds i Q)->S w)->fA P md ops ar T S B fuel (listed.setIfInBounds i Q) a w->K' a w)->if Region.wanted o (yielded ops a.tmps)=Q then Oper.wp P o a w K' ar else K' (a.put o.dst undef) w
theorem eK (i:Nat){o}(h:BS P md ops ar T S B fuel listed a w i o)(ho:ops[i]?=G o:=by rfl)(hr:Region.ready md ops listed=[i]:=by kernel_rfl):fA P md ops ar T S B (fuel+1) listed a w:=
 py hr sm (.cons ho h .nil)
theorem ti (i j:Nat){o p}(h:BS P md ops ar T S B fuel listed a w i o)(h':BS P md ops ar T S B fuel listed a w j p)(ho:ops[i]?=G o:=by rfl)(hp:ops[j]?=G p:=by rfl)(hr:Region.ready md ops listed=[i,j]:=by kernel_rfl):fA P md ops ar T S B (fuel+1) listed a w:=
 py hr sm (.cons ho h (.cons hp h' .nil))
theorem koB {K':Act->World->Prop}(hK:Shut (∀ a w,T w->(clean B listed->S w)->fA P md ops ar T S B fuel listed a w->K' a w))(hT:T w)(hS:S w)(h:fA P md ops ar T S B fuel listed a' w)(ha:a=a':=by first | (simp only[eh,cU,dx,fI];rfl) | rfl):K' a w:=by
 subst ha;exact hK _ _ hT (λ_=>hS) h
theorem iU (h:ar .normal a w)(hr:Region.ready md ops listed=[]:=by kernel_rfl):fA P md ops (NoPanic ar) T S B fuel listed a w:=CF hr (NoPanic.normal h) fuel
theorem jI (B:List Nat)(hT:T w.drew)(hS:S w.drew)(h:T w.drew->S w.drew->fA P .any ops (NoPanic ar) T S B ops.size (Array.replicate ops.size z) a w.drew)(hm:P.follows .mixedOrders=Q:=by kernel_rfl):(Code.region id ops Q).wp P ar a w:=
 ab8 (Cz B hm ⟨hT,hS⟩ λh2=>h h2.1 h2.2)
theorem qd (i:Nat){oi:Oper}{v:Value}(h:fA P md ops ar T S B fuel (listed.setIfInBounds i Q) a' w)(hT:T w:=by assumption)(hS:S w:=by assumption)
 (hi:ops[i]?=G oi:=by rfl) (hs:Region.noSelect ops=Q:=by kernel_rfl) (hf:Region.free md ops listed i=Q:=by kernel_rfl) (hr:(Region.ready md ops listed).contains i=Q:=by kernel_rfl)
 (hQ:∀ c a w,ar (.panic c) (a.put oi.dst v) w->ar (.panic c) a w:=by exact λ_ _ _ h=>h) (hiB:B.contains i=z:=by kernel_rfl)
 (hy:YieldsIf P ops (λ_=>True) oi v a:=by refine aG ⟨by rfl,?_⟩;intro wx hSx;go_simp;try with_reducible rfl)
 (ha:a.put oi.dst v=a':=by first | (simp only[eh,cU,dx,fI];rfl) | rfl):fA P md ops ar T S B (fuel+1) listed a w:=
 tk0 i hT hS h hi hs hf hr hQ hiB hy ha
theorem te (i:Nat){oi:Oper}(h:fA P md ops ar T S B fuel (listed.setIfInBounds i Q) a' w)(hT:T w:=by assumption)(hS:S w:=by assumption)
 (hi:ops[i]?=G oi:=by rfl) (hs:Region.noSelect ops=Q:=by kernel_rfl) (hf:Region.free md ops listed i=Q:=by kernel_rfl) (hr:(Region.ready md ops listed).contains i=Q:=by kernel_rfl)
 (hQ:∀ c a w,ar (.panic c) (a.put oi.dst undef) w->ar (.panic c) a w:=by exact λ_ _ _ h=>h) (hiB:B.contains i=z:=by kernel_rfl)
 (hy:YieldsIf P ops (λ_=>True) oi undef a:=by exact aI ⟨by rfl,D⟩)
 (ha:a.put oi.dst undef=a':=by first | (simp only[eh,cU,dx,fI];rfl) | rfl):fA P md ops ar T S B (fuel+1) listed a w:=
 tko i hT (λ_=>hS) h hi hs hf hr hQ hiB hy ha
theorem td (i:Nat){oi:Oper}{v:Value}(h:fA P md ops ar T S B fuel (listed.setIfInBounds i Q) a' w)(hT:T w:=by assumption)(hS:S w:=by assumption)
 (hi:ops[i]?=G oi:=by rfl) (hs:Region.noSelect ops=Q:=by kernel_rfl) (hf:Region.free md ops listed i=Q:=by kernel_rfl) (hr:(Region.ready md ops listed).contains i=Q:=by kernel_rfl)
 (hQ:∀ c a w,ar (.panic c) (a.put oi.dst v) w->ar (.panic c) a w:=by exact λ_ _ _ h=>h) (hB:waits md ops B i=Q:=by kernel_rfl) (hiB:B.contains i=z:=by kernel_rfl) (hc:(B.all λj=>listed.getD j Q==z)=Q:=by kernel_rfl)
 (hy:YieldsIf P ops S oi v a:=by refine aG ⟨by rfl,?_⟩;intro wx hSx;go_simp;try with_reducible rfl)
 (ha:a.put oi.dst v=a':=by first | (simp only[eh,cU,dx,fI];rfl) | rfl):fA P md ops ar T S B (fuel+1) listed a w:=
 tk i hT hS h hi hs hf hr hQ hB hiB hc hy ha
inductive aam(P:Program)(md:Region.Mode)(ops:Array Oper)(ar:Exit->Act->World->Prop)(B:List Nat):Nat->Array Bool->Act->List Nat->Nat->Array Bool->Act->Prop
 | nil{f l a}:aam P md ops ar B f l a [] f l a
 | one{f f' l l' a a' b r}{i:Nat}{o:Oper}{v:Value}(hi:ops[i]?=G o)(hf:Region.free md ops l i=Q)(hr:(Region.ready md ops l).contains i=Q)(hQ:∀ c a w,ar (.panic c) (a.put o.dst v) w->ar (.panic c) a w)(hB:B.contains i=z)(hy:YieldsIf P ops (λ_=>True) o v a)(ha:a.put o.dst v=a')(k:aam P md ops ar B f (l.setIfInBounds i Q) a' r f' l' b):aam P md ops ar B (f+1) l a (i::r) f' l' b
theorem aay {P}{md}{ops}{ar:Exit->Act->World->Prop}{T S:World->Prop}{B:List Nat}{w}(hT:T w)(hS:S w)(hs:Region.noSelect ops=Q){f l a is f' l' a'}(k:aam P md ops ar B f l a is f' l' a')(h:fA P md ops ar T S B f' l' a' w):fA P md ops ar T S B f l a w:=by
 induction k with
 | nil=>exact h
 | one hi hf hr hQ hB hy ha _ ih=>exact tk0 _ hT hS (ih h) hi hs hf hr hQ hB hy ha
theorem aaa {P}{md}{ops}{ar:Exit->Act->World->Prop}{T S:World->Prop}{B:List Nat}{w}{f l a f' l' a'}(is:List Nat)(h:fA P md ops ar T S B f' l' a' w)(hT:T w:=by assumption)(hS:S w:=by assumption)(hs:Region.noSelect ops=Q:=by kernel_rfl)
 (k:aam P md ops ar B f l a is f' l' a':=by
  repeat' first
   | exact .nil
   | apply aam.one (by rfl) kr kr (by exact λ_ _ _ h=>h) kr (by first | (refine aG ⟨by rfl,?_⟩;intro wx hSx;go_simp;try with_reducible rfl;done) | exact aI ⟨by rfl,D⟩) (by first | (simp only[eh,cU,dx,fI];rfl) | rfl)):fA P md ops ar T S B f l a w:=aay hT hS hs k h
theorem kq {K':Act->World->Prop}(hK:Shut (∀ a w,T w->(clean B listed->S w)->fA P md ops ar T S B fuel listed a w->K' a w))(h:fA P md ops ar T S B fuel listed a' w)(hT:T w:=by assumption)(hS:S w:=by assumption)(ha:a=a':=by first | (simp only[eh,cU,dx,fI];rfl) | rfl):K' a w:=
 koB hK hT hS h ha
end
theorem zW{o}{c}(h:Bk (W.drew.alloc o) W.drew.heap.size t c):Bk (W.drew.alloc o) W.heap.size t c:=h
theorem zV(h:V.heap.size<=W.drew.heap.size):V.heap.size<=W.heap.size:=h
def UC.sv (x:UC):Value:=Z x.A x.n x.c
def uE (w:World)(β:Nat->Nat)(ul:List UC)(us:List il):Prop:=
 ul.length=us.length/\∀ j (h:j<ul.length) (h':j<us.length),(ul[j]).u=(us[j]).u/\Rw eP.cs 112 4 w (β j) (ul[j]).sv (us[j]).l
structure oD (w:World)(b:Nat)(vo vu vs vt:Value)(s:St)(ul:List UC):Prop where
 ho:Rw fl.cs 289 4 w b vo s.op
 hu:Rw UC.cs 282 2 w b vu ul
 hl:uE w (λ_=>b) ul s.us
 hs:Rw Sub.cs 293 4 w b vs s.sb
 ht:Rw gb.cs 244 2 w b vt s.tb
def jd (s:St)(vo vu vs vt:Value):Value:=.agg #[I J s.now,I J s.fb,vo,vu,vs,vt]
def iW (w:World)(b:Nat)(v:Value)(s:St):Prop:=∃ vo vu vs vt ul,v=jd s vo vu vs vt/\oD w b vo vu vs vt s ul
structure UI (s:St):Prop where
 no:s.op.length<=1000
 nu:s.us.length<=1000
 ns:s.sb.length<=1000
 nt:s.tb.length<=1000
 nl:∀ y∈s.us,y.l.length<=1000
theorem mB (x:gb):∀ u∈x.cs,u.oneCell'=Q:=by simp[gb.cs,Value.oneCell']
theorem qm (x:UC):∀ u∈x.cs,u.oneCell'=Q:=by simp[UC.cs,Value.oneCell']
theorem uE.bl{β:Nat->Nat}{ul}{us}(h:uE w β ul us)(hb:Bl w W):uE W β ul us:=⟨h.1,λj h1 h2=>⟨(h.2 j h1 h2).1,(h.2 j h1 h2).2.bl hb⟩⟩
theorem oD.bl{s}{ul}(h:oD w b vo vu vs vt s ul)(hb:Bl w W):oD W b vo vu vs vt s ul:=
 ⟨h.ho.bl hb,h.hu.bl hb,h.hl.bl hb,h.hs.bl hb,h.ht.bl hb⟩
theorem iW.bl{v}{s}(h:iW w b v s)(hb:Bl w W):iW W b v s:=
 let⟨vo,vu,vs,vt,ul,e,k⟩:=h;⟨vo,vu,vs,vt,ul,e,k.bl hb⟩
theorem pJ{v}{cs}(h:w.ownsRow b t sz v n xs)(hB:Bk w g t2 cs)(ht:t≠t2)(hg:w.grownBy W (G g)):W.ownsRow b t sz v n xs:=by
 refine⟨h.1,?_⟩;rcases h.2 with h | ⟨g',cap,cur,hv,hgb,hh,r⟩
 ·exact .inl h
 ·refine .inr ⟨g',cap,cur,hv,hgb,?_,r⟩;have hne:g'≠g:=λe=>by
   subst e;have hB':w.heap[g']?=G (.cells cs t2):=hB;rw[hB'] at hh;injection hh with hh
   injection hh with _ h2
   exact ht h2.symm
  rw[hg.block g' (aa2.1 hh).1 (by intro e;injection e with e;exact hne e)];exact hh
theorem Rw.Gj {α:Type}{f:α->List Value}{L:List α}(hf:∀ x,(f x).length=sz)(h:Rw f t sz W b (Z (G ⟨g,0,E⟩) n cap) L)(hk:k<L.length)(hj:j<sz){x:α}{u:Value}(hx:f x=(f L[k]).set j u):
 Rw f t sz (W.setCell ⟨g,k*sz+j,E⟩ u) b (Z (G ⟨g,0,E⟩) n cap) (L.set k x):=by
 obtain⟨cur,hB,hs,ht⟩:=h.cur;obtain⟨g',hgg,hbg,_,_⟩:=h.at hf k hk;injection hgg with e
 injection e with e
 subst e;obtain⟨A',cap',e1,e2,e3⟩:=h.form;injection e1 with _ e4 e5
 subst e5;refine Rw.mk' hf (hB.set (k*sz+j) u) (by simpa using hs) (by simp[e4]) om e3 hbg λi hi q hq=>?_;rw[cJ] at hi;have h0:(cur)[i*sz+q]?=(f L[i])[q]?:=by
  have h1:=pj f sz hf L i q hi hq;rw[<-ht,bE,aA (by calc i*sz+q<i*sz+sz:=om
   _=(i+1)*sz:=by rw[bH];omega
   _<=L.length*sz:=bt _ hi),cj] at h1
  exact h1
 rw[bW];by_cases hik:k=i
 ·subst hik;rw[dL,hx,List.getElem?_set];by_cases hjq:j=q
  ·subst hjq;have hlt:k*sz+j<cur.size:=by
    rw[hs]
    calc k*sz+j<k*sz+sz:=om
     _=(k+1)*sz:=by rw[bH];omega
     _<=L.length*sz:=bt _ hi
     _<=cap*sz:=bt _ e2
   have hl2:j<(f L[k]).length:=by rw[hf];exact hj
   simp[hlt,hl2]
  ·rw[az om,az hjq];exact h0
 ·rw[List.getElem_set_ne hik];have:k*sz+j≠i*sz+q:=by
   intro e;rcases Nat.lt_or_gt_of_ne hik with h1 | h1
   ·have:(k+1)*sz<=i*sz:=bt _ h1;rw[bH] at this;omega
   ·have:(i+1)*sz<=k*sz:=bt _ h1;rw[bH] at this;omega
  rw[az this];exact h0
theorem Rw.fw {α:Type}{f:α->List Value}{v u}{L:List α}{cs}(h:Rw f t sz W b v L)(hB:Bk W g t2 cs)(ht:t≠t2)(i:Nat):Rw f t sz (W.setCell ⟨g,i,E⟩ u) b v L:=
 pJ h hB ht (tt (pO _ _) i u)
theorem uE.fw{β:Nat->Nat}{ul}{us}{cs}{u}(h:uE w β ul us)(hB:Bk w g t2 cs)(ht:112≠t2)(i:Nat):uE (w.setCell ⟨g,i,E⟩ u) β ul us:=
 ⟨h.1,λj h1 h2=>⟨(h.2 j h1 h2).1,(h.2 j h1 h2).2.fw hB ht i⟩⟩
abbrev kS (W:World)(Y:Nat)(a b c d e f:Value):World:=(((((W.setCell ⟨Y,0,E⟩ a).setCell ⟨Y,1,E⟩ b).setCell ⟨Y,2,E⟩ c).setCell ⟨Y,3,E⟩ d).setCell ⟨Y,4,E⟩ e).setCell ⟨Y,5,E⟩ f
theorem YS.kO(h:YS w Y t 6 W)(a b c d e f):Bk (kS W Y a b c d e f) Y t #[a,b,c,d,e,f]:=by
 obtain⟨cs,k,hs⟩:=h.y;obtain⟨l⟩:=cs
 match l,hs with
 | [_,_,_,_,_,_],_=>exact(((((k.set 0 a).set 1 b).set 2 c).set 3 d).set 4 e).set 5 f
theorem Bl.kO(h:Bl V W)(hY:V.heap.size<=Y)(a b c d e f):Bl V (kS W Y a b c d e f):=(((((h.st hY a).st hY b).st hY c).st hY d).st hY e).st hY f
theorem oD.fw{u}{s}{ul}{cs}(h:oD w b vo vu vs vt s ul)(hB:Bk w g 131 cs)(i:Nat):oD (w.setCell ⟨g,i,E⟩ u) b vo vu vs vt s ul:=
 ⟨h.ho.fw hB dc i,h.hu.fw hB dc i,h.hl.fw hB dc i,h.hs.fw hB dc i,h.ht.fw hB dc i⟩
theorem oD.kO{s}{ul}{cs}(h:oD w b vo vu vs vt s ul)(k:Bk w Y 131 cs)(a1 a2 a3 a4 a5 a6):oD (kS w Y a1 a2 a3 a4 a5 a6) b vo vu vs vt s ul:=
 (((((h.fw k 0).fw (k.set 0 a1) 1).fw ((k.set 0 a1).set 1 a2) 2).fw (((k.set 0 a1).set 1 a2).set 2 a3) 3).fw ((((k.set 0 a1).set 1 a2).set 2 a3).set 3 a4) 4).fw (((((k.set 0 a1).set 1 a2).set 2 a3).set 3 a4).set 4 a5) 5
theorem Bk.fw{cs cs2}(h:Bk W X t cs)(hB:Bk W g t2 cs2)(ht:t≠t2)(i:Nat)(u):Bk (W.setCell ⟨g,i,E⟩ u) X t cs:=
 (aa0 W ⟨g,i,E⟩ u X λe=>by
  have e:X=g:=e;subst e;have h':W.heap[X]?=G (.cells cs t):=h;have hB':W.heap[X]?=G (.cells cs2 t2):=hB;rw[h'] at hB';injection hB' with hB'
  injection hB' with _ h2
  exact ht h2).trans h
theorem iy:(prog.info? 131).map (·.size)=G 6:=kr
structure ZB (w:World)(b X:Nat)(A2:Option Addr)(n c2:Nat)(v1 v3 v4:Value)(s:St)(k:Nat)(wr:World):Prop where
 bl:Bl w wr
 x:Bk wr X 131 #[I J s.now,I J s.fb,v1,Z A2 n c2,v3,v4]
 y:∃ a b c d e f,Bk wr (X+1) 131 #[a,b,c,d,e,f]
 ho:Rw fl.cs 289 4 wr w.heap.size v1 s.op
 hs:Rw Sub.cs 293 4 wr w.heap.size v3 s.sb
 ht:Rw gb.cs 244 2 wr w.heap.size v4 s.tb
 hu:∃ ul,Rw UC.cs 282 2 wr w.heap.size (Z A2 n c2) ul/\uE wr (λj=>if j<k then w.heap.size else b) ul s.us
theorem ZB.step{c2 n9 c9:Nat}{A9:Option Addr}{v1 v3 v4}{s}{ul:List UC}(hC:ZB w b X (G ⟨g,0,E⟩) n c2 v1 v3 v4 s k wr)(hW:Bl wr W)
 (hu1:Rw UC.cs 282 2 wr w.heap.size (Z (G ⟨g,0,E⟩) n c2) ul) (hu2:uE wr (λj=>if j<k then w.heap.size else b) ul s.us) (hk:k<ul.length) (hk1:k<s.us.length)
 (hr:Rw eP.cs 112 4 W B (Z A9 n9 c9) s.us[k].l) (hB:w.heap.size<=B) (hg:w.heap.size<=g):ZB w b X (G ⟨g,0,E⟩) n c2 v1 v3 v4 s (k+1) (W.setCell ⟨g,k*2+1,E⟩ (Z A9 n9 c9)):=by
 have hu:=hu1.bl hW;obtain⟨cs,hcs,_⟩:=hu.cur;obtain⟨y0,y1,y2,y3,y4,y5,ky⟩:=hC.y;refine⟨(hC.bl.ca hW).st hg _,Bk.fw (hW.bl hC.x) hcs dc _ _,⟨y0,y1,y2,y3,y4,y5,Bk.fw (hW.bl ky) hcs dc _ _⟩,(hC.ho.bl hW).fw hcs dc _,(hC.hs.bl hW).fw hcs dc _,(hC.ht.bl hW).fw hcs dc _,
  ul.set k ⟨ul[k].u,A9,n9,c9⟩,Rw.Gj (f:=UC.cs) (sz:=2) (k:=k) (j:=1) (λ_=>rfl) hu hk dc D,by simp[hu2.1],λj h1 h2=>?_⟩
 rw[cJ] at h1;rw[dy]
 split
 ·rename_i e;subst e;refine⟨(hu2.2 k hk hk1).1,?_⟩;have k0:Rw eP.cs 112 4 W w.heap.size (Z A9 n9 c9) s.us[k].l:=fa hr hB;have k1:=Rw.fw (u:=Z A9 n9 c9) k0 hcs dc (k*2+1);simpa[UC.sv] using k1
 ·rename_i hne;obtain⟨k1,k2⟩:=hu2.2 j h1 h2;refine⟨k1,?_⟩;have k3:=Rw.fw (u:=Z A9 n9 c9) (Rw.bl k2 hW) hcs dc (k*2+1);have e:(if j<k+1 then w.heap.size else b)=(if j<k then w.heap.size else b):=by
   by_cases h:j<k
   ·rw[aA h,aA om]
   ·rw[az h,az om]
  show Rw eP.cs 112 4 _ (if j<k+1 then w.heap.size else b) _ _;rw[e];exact k3
theorem pt (s)(v)(b:Nat)(w)(h:iW w b v s)(hn:UI s):
 Calls prog 123 #[v] w λe w'=>∃ v',e= .returned v'/\iW w' w.heap.size v' s/\Bl w w':=by
 obtain⟨vo,vu,vs,vt,ul,rfl,hr⟩:=h;unfold jd;obtain⟨CO,CU,CS,CT⟩:=kB (λW (hb:Bl w W)=>clnSess kL W (hr.ho.bl hb) aaQ) (λW (hb:Bl w W)=>clnUser qm W (hr.hu.bl hb) lZ) (λW (hb:Bl w W)=>clnSubs sub_one W (hr.hs.bl hb) iM) (λW (hb:Bl w W)=>clnTomb mB W (hr.ht.bl hb) aaR);obtain⟨Ao,co,rfl,_,_⟩:=hr.ho.form;obtain⟨Au,cu,rfl,_,_⟩:=hr.hu.form;obtain⟨As,cs,rfl,_,_⟩:=hr.hs.form;obtain⟨At,ct,rfl,_,_⟩:=hr.ht.form;have HR:=H hr;clear hr;obtain⟨X,V,hX,hV,BX,BY,HB,HXw,SV⟩:=lj w #[I J s.now,I J s.fb,Z Ao s.op.length co,Z Au ul.length cu,Z As s.sb.length cs,Z At s.tb.length ct] 131 #[av,av,aw,aw,aw,aw] 131;obtain⟨x0,x1,x2,x3,x4,x5⟩:=jg BX;obtain⟨y0,y1,y2,y3,y4,y5⟩:=jg BY;obtain⟨HBX,HBY⟩:=eN BX BY;clear BX BY y0 y1 y2 y3 y4 y5;have HYS:YS w X 131 6 V:=⟨HB,by rw[HXw.out];exact aB _,_,HBX,D⟩;obtain⟨F,hF⟩:=YS.fn w X 131 6;have z2:=λW (h:YS w X 131 6 W)=>hF W h 2 dc;have z3:=λW (h:YS w X 131 6 W)=>hF W h 3 dc;have z4:=λW (h:YS w X 131 6 W)=>hF W h 4 dc;have z5:=λW (h:YS w X 131 6 W)=>hF W h 5 dc;have zf:=λW j (h:YS w X 131 6 W)=>h.fr j;clear hF
 go_enter func123,ntmps123
 go_upto_region 1 with fail
 rw[<-hV,<-hX];clear hV hX;refine jI (T:=YS w X 131 6) (S:=Bl V) [13,15,17,19] HYS.dr Bl.eH.dr λhT0 hS0=>?_
 try dsimp only at hT0 hS0
 refine qd 0 ?_;refine td 1 ?_;refine qd 3 ?_;refine td 4 ?_;refine qd 6 ?_;refine td 7 ?_;refine qd 9 ?_;refine td 10 ?_;refine eK 2 λKQ hK=>?_;go_simp
 (go_at_call 202;refine aaj (CO _ hT0.b) λv1 w1 hr1 hb1=>?_)
 obtain⟨A1,c1,rfl,_,_⟩:=hr1.form;have hT1:=hT0.ca hb1;have hS1:=hS0.ca hb1;refine kq hK ?_;clear hK KQ;refine qd 12 ?_;refine eK 5 λKQ hK=>?_;go_simp
 (go_at_call 203;refine aaj (CU _ hT1.b) λv2 w2 hr2 hb2=>?_)
 obtain⟨A2,c2,rfl,_,_⟩:=hr2.form;have hT2:=hT1.ca hb2;have hS2:=hS1.ca hb2;refine kq hK ?_;clear hK KQ;refine eK 8 λKQ hK=>?_;go_simp
 (go_at_call 204;refine aaj (CS _ hT2.b) λv3 w3 hr3 hb3=>?_)
 obtain⟨A3,c3,rfl,_,_⟩:=hr3.form;have hT3:=hT2.ca hb3;have hS3:=hS2.ca hb3;refine kq hK ?_;clear hK KQ;refine eK 11 λKQ hK=>?_;go_simp
 (go_at_call 205;refine aaj (CT _ hT3.b) λv4 w4 hr4 hb4=>?_)
 obtain⟨A4,c4,rfl,_,_⟩:=hr4.form;have hT4:=hT3.ca hb4;have hS4:=hS3.ca hb4;refine kq hK ?_;clear hK KQ;refine eK 13 λKQ hK=>?_;go_simp;refine fJ (hK _ _) (hT4.st _ _) (eI (j:=13) kr kr) (λhT5=>?_)
 try dsimp only at hT5
 clear hK
 try simp only[fI]
 refine tz 14 hT5 (eI (j:=13) kr kr) ?_;refine eK 15 λKQ hK=>?_;go_simp;refine fJ (hK _ _) (hT5.st _ _) (eI (j:=15) kr kr) (λhT6=>?_)
 try dsimp only at hT6
 clear hK
 try simp only[fI]
 refine tz 16 hT6 (eI (j:=15) kr kr) ?_;refine eK 17 λKQ hK=>?_;go_simp;refine fJ (hK _ _) (hT6.st _ _) (eI (j:=17) kr kr) (λhT7=>?_)
 try dsimp only at hT7
 clear hK
 try simp only[fI]
 refine tz 18 hT7 (eI (j:=17) kr kr) ?_;refine eK 19 λKQ hK=>?_;go_simp;refine fJ (hK _ _) (hT7.st _ _) (eI (j:=19) kr kr) (λhT8=>?_)
 try dsimp only at hT8
 clear hK
 try simp only[fI]
 refine iU ?_;obtain⟨hT,hW4⟩:=eN hT8 ((((hS0.ca hb1).ca hb2).ca hb3).ca hb4);have hn2:ul.length=s.us.length:=HR.hl.1;have z0:=hT0.b.size;have z1:=hb1.size;have z2:=hb2.size;have z3:=hb3.size;have k0:Bk w4 X 131 _:=hW4.bl HBX;have hC:ZB w b X A2 ul.length c2 (Z A1 s.op.length c1) (Z A3 s.sb.length c3) (Z A4 s.tb.length c4) s 0 ((((w4.setCell ⟨X,2,E⟩ (Z A1 s.op.length c1)).setCell ⟨X,3,E⟩ (Z A2 ul.length c2)).setCell ⟨X,4,E⟩ (Z A3 s.sb.length c3)).setCell ⟨X,5,E⟩ (Z A4 s.tb.length c4)):=by
  have k1:=k0.set 2 (Z A1 s.op.length c1);have k2:=k1.set 3 (Z A2 ul.length c2);have k3:=k2.set 4 (Z A3 s.sb.length c3);have hne:X+1≠X:=om;have fw:∀ (W:World) (i:Nat) (u:Value),Bk W (X+1) 131 #[av,av,aw,aw,aw,aw]->Bk (W.setCell ⟨X,i,E⟩ u) (X+1) 131 #[av,av,aw,aw,aw,aw]:=λW i u k=>(aa0 W ⟨X,i,E⟩ u (X+1) hne).trans k;have q1:Rw fl.cs 289 4 w4 w.heap.size (Z A1 s.op.length c1) s.op:=fa (((hr1.bl hb2).bl hb3).bl hb4) z0;have q2:Rw UC.cs 282 2 w4 w.heap.size (Z A2 ul.length c2) ul:=fa ((hr2.bl hb3).bl hb4) om;have q3:Rw Sub.cs 293 4 w4 w.heap.size (Z A3 s.sb.length c3) s.sb:=fa (hr3.bl hb4) om;have q4:Rw gb.cs 244 2 w4 w.heap.size (Z A4 s.tb.length c4) s.tb:=fa hr4 om;have q5:uE w4 (λj=>if j<0 then w.heap.size else b) ul s.us:=by
   have:=HR.hl.bl (HB.ca hW4);exact⟨this.1,λj h1 h2=>⟨(this.2 j h1 h2).1,by have k:=(this.2 j h1 h2).2;simpa using k⟩⟩
  exact⟨hT.b,k3.set 5 _,⟨_,_,_,_,_,_,fw _ _ _ (fw _ _ _ (fw _ _ _ (fw _ _ _ (hW4.bl HBY))))⟩,(((q1.fw k0 dc 2).fw k1 dc 3).fw k2 dc 4).fw k3 dc 5,(((q3.fw k0 dc 2).fw k1 dc 3).fw k2 dc 4).fw k3 dc 5,(((q4.fw k0 dc 2).fw k1 dc 3).fw k2 dc 4).fw k3 dc 5,
   ul,(((q2.fw k0 dc 2).fw k1 dc 3).fw k2 dc 4).fw k3 dc 5,(((q5.fw k0 dc 2).fw k1 dc 3).fw k2 dc 4).fw k3 dc 5⟩
 generalize hWW:(((w4.setCell ⟨X,2,E⟩ (Z A1 s.op.length c1)).setCell ⟨X,3,E⟩ (Z A2 ul.length c2)).setCell ⟨X,4,E⟩ (Z A3 s.sb.length c3)).setCell ⟨X,5,E⟩ (Z A4 s.tb.length c4)=W5 at*;have HC0:=H hC;have q3:=hC.x.ce 3;clear hWW hT0 hS0 hT1 hS1 hT2 hS2 hT3 hS3 hT4 hS4 hT5 hT6 hT7 hT8 hb1 hb2 hb3 hb4 hr1 hr2 hr3 hr4 hT hW4 k0 hC z0 z1 z2 z3 CO CU CS CT;obtain⟨n,hnn⟩:=fe ul.length;rw[<-hnn] at HC0 q3 hn2;have HN2:=H hn2;have hnb:n<=1000:=by rw[hn2];exact hn.nu
 clear hnn hn2
 go_wp2_with fail
 go_loopw [23] (λi wr=>∃ k:Nat,k<=n/\i= I J k/\ZB w b X A2 n c2 (Z A1 s.op.length c1) (Z A3 s.sb.length c3) (Z A4 s.tb.length c4) s k wr) (λi _=>n - (intOf i).toNat)
 case atStart=>exact⟨0,aD _,D,HC0⟩
 case round=>
  obtain⟨k,hk,rfl,hC⟩:=hrel;have hX3:=Bk.all hC.x 3 D;by_cases hlt:k<n
  ·obtain⟨ulk,hu1,hu2⟩:=hC.hu;have hk1:k<s.us.length:=by rw[<-HN2.out];exact hlt
   have hk':k<ulk.length:=by rw[hu2.1];exact hk1
   obtain⟨g,rfl,hgw,hg,d0,d1⟩:=hu1.Cm (f:=UC.cs) (c0:=λx=>C x.u) (c1:=λx=>Z x.A x.n x.c) (λ_=>rfl) k hk';obtain⟨hnm,hrow⟩:=hu2.2 k hk' hk1;have CL:=H (λW (hb:Bl wr W)=>clnStay j0 W (hrow.bl hb) (by have:=hn.nl s.us[k] (aV hk1);omega));unfold UC.sv at CL;obtain⟨cg,hcg,_⟩:=hu1.cur;obtain⟨HG,HC,HU1,HU2⟩:=kB hcg hC hu1 hu2;have HNM:=H hnm;have zf:=λW (h:Bl wr W)=>Bk.fr (h.bl HG) (k*2+1);obtain⟨i1,i2⟩:=ln (k:=k) (m:=n) om;have HX:=H (show ∃ x,x=ulk[k] from⟨_,D⟩);clear hC hu1 hu2 hnm hrow hcg HC0 q3 HR hg
   go_upto_region 5 with fail
   refine jI (T:=Bl w) (S:=Bl wr) [12] HC.bl.dr Bl.eH.dr λhT0 hS0=>?_
   try dsimp only at hT0 hS0
   refine qd 0 ?_;refine td 1 ?_;refine aaa [2,3] ?_;refine td 4 ?_;refine aaa [5,6,7] ?_;refine td 8 ?_;refine eK 9 λKQ hK=>?_;go_simp
   (go_at_call 197;refine aaj (CL _ hS0) λv1 w1 hr1 hb1=>?_)
   obtain⟨A1,c1,rfl,_,_⟩:=hr1.form;have hT1:=hT0.ca hb1;have hS1:=hS0.ca hb1;refine kq hK ?_;clear hK KQ;refine aaa [10,11] ?_;refine eK 12 λKQ hK=>?_;go_simp;refine fJ (hK _ _) (Bl.st hT1 hgw _) (eI (j:=12) kr kr) (λhT2=>?_)
   try dsimp only at hT2
   clear hK
   try simp only[fI]
   refine iU ?_;have hT:=H hT2;have hst:=HC.step hS1 HU1 HU2 hk' hk1 hr1 (by have:=HC.bl.size;simpa using this) hgw;have HST:=H hst;clear hst hr1 hT0 hS0 hT1 hS1 hT2 hX3 d0 d1 hb1
   go_wp2_with fail
   go_roundw
   case rel=>exact⟨k+1,om,eB,HST⟩
   case measure=>simp[intOf];omega
  ·obtain rfl:k=n:=om;have i1:¬(k:Int)<k:=om;have hX:=hC.x;have q0:=hX.ce 0;have q1:=hX.ce 1;have q2:=hX.ce 2;have q3:=hX.ce 3;have q4:=hX.ce 4;have q5:=hX.ce 5;obtain⟨y0,y1,y2,y3,y4,y5,ky⟩:=hC.y;have e0:=ky.ce 0;have e1:=ky.ce 1;have e2:=ky.ce 2;have e3:=ky.ce 3;have e4:=ky.ce 4;have e5:=ky.ce 5;have ef:=λj=>ky.fr j;obtain⟨KY,HC⟩:=eN ky hC;clear hC hX hX3 HC0 ky
   go_wp2_with fail
   have hsz:=HXw.out;have hY:YS w (X+1) 131 6 wr:=⟨HC.bl,om,_,KY,D⟩;obtain⟨ul2,hu1,hu2⟩:=HC.hu;have hR:oD wr w.heap.size (Z A1 s.op.length c1) (Z A2 k c2) (Z A3 s.sb.length c3) (Z A4 s.tb.length c4) s ul2:=
    ⟨HC.ho,hu1,⟨hu2.1,λj h1 h2=>by have k2:=hu2.2 j h1 h2;have e:(if j<k then w.heap.size else b)=w.heap.size:=aA (by rw[HN2.out];exact h2);simp only[e] at k2;exact k2⟩,HC.hs,HC.ht⟩
   exact aa1 (eS (p:=2) D _ _ _ _ _ _ _ D (hY.kO _ _ _ _ _ _) underlying131 D iy) D ⟨_,D,⟨_,_,_,_,ul2,D,hR.kO KY _ _ _ _ _ _⟩,HC.bl.kO om _ _ _ _ _ _⟩
theorem uv (s t):fB s t<0↔s.lt t=Q:=by
 simp only[fB,lP,Lib.compareInt,eP.lt,aN]
 grind
abbrev fi (W:World)(b g n cap:Nat)(L:List eP):Prop:=Rw eP.cs 112 4 W b (Z (G ⟨g,0,E⟩) n cap) L
abbrev vT:Value:=.func (.func 128) #[] #[]
abbrev sX (W:World)(g i:Nat)(x:eP):World:=(((W.setCell ⟨g,i*4,E⟩ (I J x.a)).setCell ⟨g,i*4+1,E⟩ (I J x.b)).setCell ⟨g,i*4+2,E⟩ (I J x.n)).setCell ⟨g,i*4+3,E⟩ (I J x.st)
theorem fi.put{L}(h:fi W b g n cap L)(hi:i<L.length)(x):fi (sX W g i x) b g n cap (L.set i x):=by
 have hf:∀ y:eP,(eP.cs y).length=4:=λ_=>rfl;have h1:=Rw.Gj hf h hi (j:=0) dc (x:=⟨x.a,(L[i]).b,(L[i]).n,(L[i]).st⟩) (u:=I J x.a) D;have h2:=Rw.Gj hf h1 (k:=i) ia (j:=1) dc (x:=⟨x.a,x.b,(L[i]).n,(L[i]).st⟩) (u:=I J x.b) (by rw[dL];rfl);rw[List.set_set] at h2;have h3:=Rw.Gj hf h2 (k:=i) ia (j:=2) dc (x:=⟨x.a,x.b,x.n,(L[i]).st⟩) (u:=I J x.n) (by rw[dL];rfl);rw[List.set_set] at h3;have h4:=Rw.Gj hf h3 (k:=i) ia (j:=3) dc (x:=x) (u:=I J x.st) (by rw[dL];rfl);rw[List.set_set] at h4;exact h4
theorem fi.swap{L}{x y}(h:fi W b g n cap L)(hx:L[i]?=G x)(hy:L[j]?=G y):fi (sX (sX W g i y) g j x) b g n cap (swp L i j):=by
 have hi:i<L.length:=(ab4.1 hx).1;have hj:j<L.length:=(ab4.1 hy).1;unfold swp;rw[hx,hy];exact(h.put hi y).put gZ x
theorem oN(h:w.grownBy W (G g))(i:Nat)(x):w.grownBy (sX W g i x) (G g):=tt (tt (tt (tt h _ _) _ _) _ _) _ _
theorem Jc(h:w.grownBy W (G g)):w.grownBy W.drew (G g):=mX h Bl.eH.dr
theorem Rw.drew {α:Type}{f:α->List Value}{v}{L:List α}(h:Rw f t sz W b v L):Rw f t sz W.drew b v L:=h.bl Bl.eH.dr
theorem fi.at{L}{x}(h:fi W b g n cap L)(hx:L[i]?=G x):
 i<n/\(∀ W',Bl W W'->W'.cell? ⟨g,i*4,E⟩=G (I J x.a))/\(∀ W',Bl W W'->W'.cell? ⟨g,i*4+1,E⟩=G (I J x.b))/\(∀ W',Bl W W'->W'.cell? ⟨g,i*4+2,E⟩=G (I J x.n))/\(∀ W',Bl W W'->W'.cell? ⟨g,i*4+3,E⟩=G (I J x.st)):=by
 obtain⟨hi,e⟩:=ab4.1 hx;obtain⟨g',hg,_,_,k0,k1,k2,k3⟩:=h.vW (f:=eP.cs) (c0:=λx=>I J x.a) (c1:=λx=>I J x.b) (c2:=λx=>I J x.n) (c3:=λx=>I J x.st) (λ_=>rfl) i hi;injection hg with hg
 injection hg with hg
 subst hg;rw[e] at k0 k1 k2 k3;obtain⟨A',cap',e1,_,_⟩:=h.form;injection e1 with _ e2 _
 exact⟨om,k0,k1,k2,k3⟩
def XX (b g n cap:Nat)(P S:List eP)(ar:List eP->Prop)(w:World)(e:Ending)(w':World):Prop:=e= .returned (.tuple #[])/\∃ M,ar M/\fi w' b g n cap (P++(M++S))/\w.grownBy w' (G g)
abbrev jO (X M:List eP):Prop:=fZ M/\M.Perm X
structure XZ (b g n cap:Nat)(P S X:List eP)(w:World)(k:Nat)(wr:World):Prop where
 h:∃ M,jO (X.take k) M/\fi wr b g n cap (P++(M++(X.drop k++S)))
 gr:w.grownBy wr (G g)
structure FB (b g n cap:Nat)(P R:List eP)(M M1 M2:List eP)(x:eP)(w:World)(wr:World):Prop where
 e:M1++M2=M
 lt:∀ y∈M2,x.lt y=Q
 h:fi wr b g n cap (P++(M1++(x::(M2++R))))
 gr:w.grownBy wr (G g)
theorem XZ.start{P S X:List eP}(h:fi w b g n cap (P++(X++S)))(hX:0<X.length):XZ b g n cap P S X w 1 w:=by
 refine⟨⟨X.take 1,⟨?_,.refl _⟩,?_⟩,pO _ _⟩
 ·match X,hX with
  | x::r,_=>simp[fZ]
 ·rw[<-aS (X.take 1),bA];exact h
theorem FB.start{P S X}(h:XZ b g n cap P S X w k wr)(hk:k<X.length):∃ M,jO (X.take k) M/\FB b g n cap P (X.drop (k+1)++S) M M [] X[k] w wr:=by
 obtain⟨M,hM,hr⟩:=h.h;refine⟨M,hM,sm,sm,?_,h.gr⟩;rw[aR hk] at hr;exact hr
theorem FB.done{P S X M M1 M2:List eP}(hk:k<X.length)(hM:jO (X.take k) M)(h:FB b g n cap P (X.drop (k+1)++S) M M1 M2 X[k] w wr)(hl:∀ y,M1.getLast?=G y->(X[k]).lt y=z):XZ b g n cap P S X w (k+1) wr:=by
 obtain⟨e,lt,hr,gr⟩:=h;subst e;refine⟨⟨M1++X[k]::M2,⟨VI hM.1 lt hl,?_⟩,?_⟩,gr⟩
 ·rw[aL hk];exact List.perm_middle.trans ((hM.2.cons X[k]).trans (cZ (l₁:=[X[k]])))
 ·simpa using hr
theorem FB.step{P R M A M2:List eP}{x y:eP}(h:FB b g n cap P R M (A++[y]) M2 x w wr)(hl:x.lt y=Q)(hW:Bl wr W)(hq:q=P.length+A.length):
 FB b g n cap P R M A (y::M2) x w (sX (sX W g (q+1) y) g q x):=by
 subst hq;obtain⟨e,lt,hr,gr⟩:=h;refine⟨by rw[<-e];simp,λau hz=>?_,?_,oN (oN (mX gr hW) _ _) _ _⟩
 ·rcases aE.1 hz with rfl | hz
  ·exact hl
  ·exact lt au hz
 ·have e1:P++((A++[y])++x::(M2++R))=(P++A)++y::([]++x::(M2++R)):=sm;rw[e1] at hr;have q1:((P++A)++y::([]++x::(M2++R)))[P.length+A.length]?=G y:=iQ sm;have q2:((P++A)++y::([]++x::(M2++R)))[P.length+A.length+1]?=G x:=by
   have:=iQ (P:=P++A++[y]) (S:=M2++R) (x:=x) (i:=P.length+A.length+1) eC;simpa using this
  have h2:=fi.swap (Rw.bl hr hW) q2 q1;rw[C8 (P:=P++A) (ar:=[]) sm sm] at h2;simpa using h2
theorem FB.bl{P R M M1 M2}{x}(h:FB b g n cap P R M M1 M2 x w wr)(hb:Bl wr W):FB b g n cap P R M M1 M2 x w W:=⟨h.e,h.lt,h.h.bl hb,mX h.gr hb⟩
theorem FB.two{P R M A M2:List eP}{x y:eP}(h:FB b g n cap P R M (A++[y]) M2 x w wr)(hq:q=P.length+A.length):
 ∃ L,fi wr b g n cap L/\L[q]?=G y/\L[q+1]?=G x:=by
 subst hq;have e:P++((A++[y])++(x::(M2++R)))=(P++A)++y::(x::(M2++R)):=sm;have e2:P++((A++[y])++(x::(M2++R)))=(P++A++[y])++x::(M2++R):=sm;exact⟨_,h.h,by rw[e];exact iQ sm,by rw[e2];exact iQ eC⟩
structure GS (g:Nat)(t:TypeId)(N:Nat)(W:World):Prop where
 y:∃ cs,Bk W g t cs/\cs.size=N
section
variable {g N:Nat}{t:TypeId}{W W':World}
theorem GS.dr (h:GS g t N W):GS g t N W.drew:=⟨h.y⟩
theorem GS.un (h:GS g t N W.drew):GS g t N W:=⟨h.y⟩
theorem GS.ca (h:GS g t N W)(hb:Bl W W'):GS g t N W':=⟨let⟨cs,k,e⟩:=h.y;⟨cs,hb.bl k,e⟩⟩
theorem GS.al (h:GS g t N W)(o):GS g t N (W.alloc o):=h.ca (gl W o)
theorem GS.st (h:GS g t N W)(i:Nat)(v):GS g t N (W.setCell ⟨g,i,E⟩ v):=⟨let⟨_,k,e⟩:=h.y;⟨_,k.set i v,by simpa using e⟩⟩
theorem GS.fn (g:Nat)(t)(N:Nat):∃ F:World->Nat->Value,∀ W,GS g t N W->∀ j,j<N->W.cell? ⟨g,j,E⟩=G (F W j):=by
 refine⟨λW j=>(W.cell? ⟨g,j,E⟩).getD undef,λW h j hj=>?_⟩;exact nS
theorem GS.fr (h:GS g t N W)(j:Nat):W.frozen? ⟨g,j,E⟩=z:=let⟨_,k,_⟩:=h.y;k.fr j
end
theorem fi.gs{L}(h:fi W b g n cap L):GS g 112 (cap*4) W/\n<=cap/\cap<=9223372036854775807/\n=L.length:=by
 obtain⟨cs,k,e,_⟩:=h.cur;obtain⟨A',cap',e1,e2,e3⟩:=h.form;injection e1 with _ e4 e5
 exact⟨⟨cs,k,e⟩,om,om,e4⟩
theorem I6 (P X S:List eP)(b g n cap:Nat)(w)(h:fi w b g n cap (P++(X++S)))(hX:0<X.length)(hn:n<=100000):
 Calls prog 318 #[Z (G ⟨g,0,E⟩) n cap,I J (P.length:Nat),I J ((P.length:Int)+(X.length:Int)),vT] w (XX b g n cap P S (jO X) w):=by
 have hI:=H (XZ.start h hX);have hL:n=P.length+X.length+S.length:=by
  obtain⟨A',cap',e1,_,_⟩:=h.form;injection e1 with _ e2 _
  rw[e2];simp;omega
 obtain⟨p,hp,HP⟩:=nh P.length;obtain⟨m,hm,HM⟩:=nh X.length;obtain⟨q,hq⟩:=fe S.length;rw[<-hp,<-hm];rw[<-hp,<-hm,<-hq] at hL;rw[<-hm] at hX;have hL1:p+m<=n:=om;clear h hp hm hq hL
 go_enter func318,ntmps318
 go_wp2_with fail
 go_loopw [8] (λi wr=>∃ k:Nat,1<=k/\k<=m/\i= I J ((p:Int)+(k:Int))/\XZ b g n cap P S X w k wr) (λi _=>(p+m) - (intOf i).toNat)
 case atStart=>exact⟨1,om,om,eB,hI⟩
 case round=>
  obtain⟨k,hk1,hk,rfl,hI⟩:=hrel;by_cases hlt:k<m
  ·have hlt':k<m:=hlt;have hk':k<X.length:=by rw[<-HM.out];exact hlt
   obtain⟨M,hM,hJ⟩:=FB.start hI hk';have i1:(p:Int)+(k:Int)<(p:Int)+(m:Int):=om;have hML:M.length=k:=by rw[hM.2.length_eq,aK];omega
   obtain⟨hgs,hnc,hcap,hnl⟩:=hJ.h.gs;clear hnl;obtain⟨HM2,HJ0,HML⟩:=gi hM hJ hML;obtain⟨x,hx,HX⟩:=nh (X[k]);rw[<-hx] at HJ0;have i2:(n:Int)<=cap:=om;have hkn:p+k+1<=n:=om;clear hM hJ hML hx hI hgs
   go_wp2_with fail
   go_loopw [9] (λj wr=>∃ M1 M2,j= I J ((p:Int)+(M1.length:Int))/\M1.length<=k/\FB b g n cap P (X.drop (k+1)++S) M M1 M2 x w wr) (λj _=>(intOf j).toNat)
   case atStart=>exact⟨M,[],by rw[HML.out],by rw[HML.out];exact aB _,HJ0⟩
   case round=>
    obtain⟨M1,M2,rfl,hM0,hJ⟩:=hrel;rcases dI M1 with e | ⟨A,y,e⟩
    ·subst e;have i3:¬((p:Int)>p):=om;have hb0:=br wr;have HJ:=H hJ;clear hJ HJ0;simp only[b8,Int.natCast_zero,Int.add_zero] at*
     go_upto_region 4 with fail
     refine ab3 (S:=λw'=>Bl wr w') kr (Bl.dr hb0) (λhS=>?_);refine tH 0 hS ?_;refine tH 1 hS ?_;refine tH 2 hS ?_;refine tH 3 hS ?_;refine oI 4 hS ?_;refine oI 5 hS ?_;refine oI 6 hS ?_;refine oI 7 hS ?_;refine oI 8 hS ?_;refine oI 9 hS ?_;refine oI 10 hS ?_;refine oI 11 hS ?_;refine oI 12 hS ?_;refine oI 13 hS ?_;refine oI 14 hS ?_;refine oI 15 hS ?_;refine tH 16 hS ?_;refine XR ?_
     go_wp2_with fail
     go_roundw
     case rel=>exact⟨k+1,om,om,aP (Value.int IntKind.i64) om,FB.done (by rw[<-HM.out];exact hlt) HM2 (by rw[<-HX.out];exact HJ.bl (Bl.dr Bl.eH)) sm⟩
     case measure=>simp[intOf];omega
    ·rw[dz] at e;subst e;obtain⟨q,hq⟩:=fe (p+A.length);obtain⟨L,hL,ly,lx⟩:=hJ.two (q:=q) (by rw[hq,HP.out]);obtain⟨j1,y0,y1,y2,y3⟩:=hL.at ly;obtain⟨j2,x0,x1,x2,x3⟩:=hL.at lx;have HGS:=H hL.gs.1;obtain⟨F,hF⟩:=GS.fn g 112 (cap*4);have ez:(p:Int)+((A++[y]).length:Int)=(q:Int)+1:=by rw[hq];simp;omega
     rw[ez];have u0:=λW (h:GS g 112 (cap*4) W)=>hF W h (q*4) om;have u1:=λW (h:GS g 112 (cap*4) W)=>hF W h (q*4+1) om;have u2:=λW (h:GS g 112 (cap*4) W)=>hF W h (q*4+2) om;have u3:=λW (h:GS g 112 (cap*4) W)=>hF W h (q*4+3) om;have u4:=λW (h:GS g 112 (cap*4) W)=>hF W h ((q+1)*4) om;have u5:=λW (h:GS g 112 (cap*4) W)=>hF W h ((q+1)*4+1) om;have u6:=λW (h:GS g 112 (cap*4) W)=>hF W h ((q+1)*4+2) om;have u7:=λW (h:GS g 112 (cap*4) W)=>hF W h ((q+1)*4+3) om;have uf:=λW j (h:GS g 112 (cap*4) W)=>h.fr j;obtain⟨HJ,HQ,CM,HN⟩:=kB hJ hq (λW=>mx x y W) (uv x y);have i3:(q:Int)+1>(p:Int):=om;have i4:(q:Int)+1<(n:Int):=om;have i5:(0:Int)<=(q:Int)+1:=om;have w2:IntKind.i64.wrap (q:Int)=q:=jh om;have w3:((q:Int)+1).toNat=q+1:=om;obtain⟨i6,i7⟩:=ln (k:=q) (m:=n) om;have hb0:=br wr;have hM0':A.length+1<=k:=by simpa using hM0
     clear hJ HJ0 hq hL ly lx hF ez hM0;by_cases hlt:x.lt y=Q
     ·have i8:fB x y<0:=HN.out.2 hlt;generalize fB x y=au at*
      go_upto_region 4 with fail
      go_region_held3 (λw'=>Bl wr w') (exact n7) (first | (go_at_call 128;refine qx (CM _) λwc hbc=>?_))
      have hBC:Bl wr wc:=ms;have HBC:=H hBC;have hGw:=HGS.ca hBC;clear hbc hBC hb0
      go_wp2_with fail
      refine jI (T:=GS g 112 (cap*4)) (S:=Bl wr) [15,17] ((HGS.ca HBC).dr) (HBC.dr) λhT1 hS1=>?_
      try dsimp only at hT1 hS1
      refine aaa [0,1,2,3,4,5,6,7,8] ?_;refine td 9 ?_;refine aaa [10,11,12] ?_;refine td 13 ?_;refine qd 14 ?_;refine eK 15 λKQ hK=>?_;go_simp;refine fJ (hK _ _) (GS.dr (GS.st (GS.st (GS.st (GS.st (GS.un hT1) _ _) _ _) _ _) _ _)) (eI (j:=15) kr kr) (λhT0=>?_)
      try dsimp only at hT0
      clear hK
      try simp only[fI]
      refine tz 16 hT0 (eI (j:=15) kr kr) ?_;refine eK 17 λKQ hK=>?_;go_simp;refine fJ (hK _ _) (GS.dr (GS.st (GS.st (GS.st (GS.st (GS.un hT0) _ _) _ _) _ _) _ _)) (eI (j:=17) kr kr) (λhT2=>?_)
      try dsimp only at hT2
      clear hK
      try simp only[fI]
      refine iU ?_;have hq0:q=P.length+A.length:=HQ.trans (aP (· +A.length) HP);have hst:=FB.bl (HJ.step hlt HBC hq0) (Bl.dr Bl.eH);have HST:=H hst;clear w2 w3 hst hq0 hT1 hS1 hT0 hT2 u0 u1 u2 u3 u4 u5 u6 u7 uf x0 x1 x2 x3 y0 y1 y2 y3
      go_wp2_with fail
      go_roundw
      case rel=>exact⟨A,y::M2,aP (Value.int IntKind.i64) (show(q:Int)=(p:Int)+(A.length:Int) by rw[HQ.out];rfl),Nat.le_of_succ_le hM0',HST⟩
      case measure=>simp[intOf]
     ·have i8:¬fB x y<0:=λh=>hlt (HN.out.1 h);generalize fB x y=au at*
      go_upto_region 4 with fail
      go_region_held3 (λw'=>Bl wr w') (exact n7) (first | (go_at_call 128;refine qx (CM _) λwc hbc=>?_))
      have hBC:Bl wr wc:=ms;have HBC:=H hBC;clear w2 w3 hbc hBC hb0 u0 u1 u2 u3 u4 u5 u6 u7 uf x0 x1 x2 x3 y0 y1 y2 y3
      go_wp2_with fail
      go_roundw
      case rel=>exact⟨k+1,om,om,aP (Value.int IntKind.i64) om,FB.done (by rw[<-HM.out];exact hlt') HM2 (by rw[<-HX.out];exact HJ.bl HBC) (by intro v hv;simp at hv;rw[<-HX.out,<-hv];simpa using hlt)⟩
      case measure=>simp[intOf];omega
  ·obtain rfl:k=m:=om;have i1:¬(p:Int)+(k:Int)<(p:Int)+(k:Int):=om;have HIo:=H hI;clear hI
   go_wp2_with fail
   go_end0;obtain⟨⟨M,hM,hr⟩,gr⟩:=HIo.out;rw[bz (by rw[HM.out];exact aB _)] at hM;rw[bR (by rw[HM.out];exact aB _),bO] at hr;exact⟨D,M,hM,hr,gr⟩
structure XH (b g n cap:Nat)(P ai ar V S:List eP)(w:World)(i:Nat)(wr:World):Prop where
 h:fi wr b g n cap (P++((V.take i++ai.drop i)++(ar++((ai.take i++V.drop i)++S))))
 gr:w.grownBy wr (G g)
theorem XH.two{P ai ar V S}(h:XH b g n cap P ai ar V S w i wr)(hU:i<ai.length)(hV:V.length=ai.length)(hq:q=P.length+i)(hr:r=P.length+ai.length+ar.length+i):
 ∃ L,fi wr b g n cap L/\L[q]?=G ai[i]/\L[r]?=G (V[i]' om)/\q<r:=by
 refine⟨_,h.h,?_,?_,om⟩
 ·have e:P++((V.take i++ai.drop i)++(ar++((ai.take i++V.drop i)++S)))=(P++V.take i)++ai[i]::(ai.drop (i+1)++(ar++((ai.take i++V.drop i)++S))):=by
   rw[aR hU];simp only[aS,bq]
  rw[e];exact iQ eC
 ·have e:P++((V.take i++ai.drop i)++(ar++((ai.take i++V.drop i)++S)))=(P++(V.take i++ai.drop i)++ar++ai.take i)++(V[i]' om)::(V.drop (i+1)++S):=by
   rw[aR (show i<V.length by omega)];simp only[aS,bq]
  rw[e];exact iQ eC
theorem XH.step{P ai ar V S}(h:XH b g n cap P ai ar V S w i wr)(hU:i<ai.length)(hV:V.length=ai.length)(hq:q=P.length+i)(hr:r=P.length+ai.length+ar.length+i)(hW:Bl wr W):
 XH b g n cap P ai ar V S w (i+1) (sX (sX W g q (V[i]' om)) g r ai[i]).drew:=by
 have hV':i<V.length:=om;refine⟨Rw.drew ?_,Jc (oN (oN (mX h.gr hW) _ _) _ _)⟩;obtain⟨L,hL,q1,q2,_⟩:=h.two hU hV hq hr;have h2:=fi.swap (Rw.bl h.h hW) (i:=q) (j:=r) (x:=ai[i]) (y:=V[i]) (by
  have e:P++((V.take i++ai.drop i)++(ar++((ai.take i++V.drop i)++S)))=(P++V.take i)++ai[i]::(ai.drop (i+1)++(ar++((ai.take i++V.drop i)++S))):=by
   rw[aR hU];simp only[aS,bq]
  rw[e];exact iQ eC) (by
  have e:P++((V.take i++ai.drop i)++(ar++((ai.take i++V.drop i)++S)))=(P++(V.take i++ai.drop i)++ar++ai.take i)++V[i]::(V.drop (i+1)++S):=by
   rw[aR hV'];simp only[aS,bq]
  rw[e];exact iQ eC)
 have e1:P++((V.take i++ai.drop i)++(ar++((ai.take i++V.drop i)++S)))=(P++V.take i)++ai[i]::((ai.drop (i+1)++ar++ai.take i)++V[i]::(V.drop (i+1)++S)):=by
  rw[aR hU,aR hV'];simp only[aS,bq]
 rw[e1,Ia (P:=P++V.take i) (ar:=ai.drop (i+1)++ar++ai.take i) eC eC] at h2;have e2:P++((V.take (i+1)++ai.drop (i+1))++(ar++((ai.take (i+1)++V.drop (i+1))++S)))=(P++V.take i)++V[i]::((ai.drop (i+1)++ar++ai.take i)++ai[i]::(V.drop (i+1)++S)):=by
  rw[aL hU,aL hV'];simp only[aS,bq,bO]
 rw[e2];exact h2
theorem AM (P ai ar V S:List eP)(b g n cap:Nat)(w)(h:fi w b g n cap (P++(ai++(ar++(V++S)))))(hV:V.length=ai.length)(p1 p2:Int)(hp1:p1=(P.length:Int))(hp2:p2=(P.length+ai.length+ar.length:Nat)):
 Calls prog 409 #[Z (G ⟨g,0,E⟩) n cap,I J p1,I J p2,I J (ai.length:Nat),vT] w λe w'=>e= .returned (.tuple #[])/\fi w' b g n cap (P++(V++(ar++(ai++S))))/\w.grownBy w' (G g):=by
 obtain⟨p,hp,HP⟩:=nh P.length;obtain⟨r,hr,HR⟩:=nh (P.length+ai.length+ar.length);obtain⟨m,hm,HM⟩:=nh ai.length;rw[<-hp] at hp1;rw[<-hr] at hp2;subst hp1;subst hp2;rw[<-hm];have hI:XH b g n cap P ai ar V S w 0 w:=⟨fc,pO _ _⟩;have HI:=H hI;obtain⟨hgs,hnc,hcap,hnl⟩:=h.gs;have hrn:r+m<=n:=by rw[hnl,hr,hm];simp;omega
 have hpr:p+m<=r:=om;have HV:=H hV;have i0:(n:Int)<=cap:=om;clear h hp hr hm hI hgs hnl hV
 go_enter func409,ntmps409
 go_wp2_with fail
 go_loopw [10] (λi wr=>∃ k:Nat,k<=m/\i= I J k/\XH b g n cap P ai ar V S w k wr) (λi _=>m - (intOf i).toNat)
 case atStart=>exact⟨0,aD _,D,HI⟩
 case round=>
  obtain⟨k,hk,rfl,hI⟩:=hrel;by_cases hlt:k<m
  ·have hk':k<ai.length:=by rw[<-HM.out];exact hlt
   obtain⟨q,hq⟩:=fe (p+k);obtain⟨t,ht⟩:=fe (r+k);have hq1:q=P.length+k:=by rw[hq,HP.out]
   have ht1:t=P.length+ai.length+ar.length+k:=by rw[ht,HR.out]
   obtain⟨L,hL,ly,lx,hqt⟩:=hI.two hk' HV hq1 ht1;have HSTEP:=H (λW (hW:Bl wr W)=>hI.step hk' HV hq1 ht1 hW);have hkV:k<V.length:=by rw[HV.out];exact hk'
   generalize ai[k]=y at ly HSTEP;generalize V[k]=x at lx HSTEP;obtain⟨j1,y0,y1,y2,y3⟩:=hL.at ly;obtain⟨j2,x0,x1,x2,x3⟩:=hL.at lx;have HGS:=H hL.gs.1;have hGw:=hL.gs.1;obtain⟨F,hF⟩:=GS.fn g 112 (cap*4);have u0:=λW (h:GS g 112 (cap*4) W)=>hF W h (q*4) om;have u1:=λW (h:GS g 112 (cap*4) W)=>hF W h (q*4+1) om;have u2:=λW (h:GS g 112 (cap*4) W)=>hF W h (q*4+2) om;have u3:=λW (h:GS g 112 (cap*4) W)=>hF W h (q*4+3) om;have u4:=λW (h:GS g 112 (cap*4) W)=>hF W h (t*4) om;have u5:=λW (h:GS g 112 (cap*4) W)=>hF W h (t*4+1) om;have u6:=λW (h:GS g 112 (cap*4) W)=>hF W h (t*4+2) om;have u7:=λW (h:GS g 112 (cap*4) W)=>hF W h (t*4+3) om;have uf:=λW j (h:GS g 112 (cap*4) W)=>h.fr j;have i1:(k:Int)<m:=om;obtain⟨i2,i3⟩:=ln (k:=q) (m:=n) om;obtain⟨i4,i5⟩:=ln (k:=t) (m:=n) om;obtain⟨HQ,HT⟩:=eN hq ht;have w1:IntKind.i64.wrap ((p:Int)+(k:Int))=(q:Int):=by rw[show(p:Int)+(k:Int)=(q:Int) by omega];exact jh om
   have w2:IntKind.i64.wrap ((r:Int)+(k:Int))=(t:Int):=by rw[show(r:Int)+(k:Int)=(t:Int) by omega];exact jh om
   have hb0:=br wr;clear hI hL ly lx hF hq ht hq1 ht1
   go_upto_region 3 with fail
   refine jI (T:=GS g 112 (cap*4)) (S:=Bl wr) [21,23] ((HGS.ca hb0).dr) (hb0.dr) λhT0 hS0=>?_
   try dsimp only at hT0 hS0
   refine aaa [0,1,2,3,4,5,6,7,8,9,10,11,12] ?_;refine td 13 ?_;refine aaa [14,15,16,17,18] ?_;refine td 19 ?_;refine qd 20 ?_;refine eK 21 λKQ hK=>?_;go_simp;refine fJ (hK _ _) (GS.dr (GS.st (GS.st (GS.st (GS.st (GS.un hT0) _ _) _ _) _ _) _ _)) (eI (j:=21) kr kr) (λhT1=>?_)
   try dsimp only at hT1
   clear hK
   try simp only[fI]
   refine tz 22 hT1 (eI (j:=21) kr kr) ?_;refine eK 23 λKQ hK=>?_;go_simp;refine fJ (hK _ _) (GS.dr (GS.st (GS.st (GS.st (GS.st (GS.un hT1) _ _) _ _) _ _) _ _)) (eI (j:=23) kr kr) (λhT2=>?_)
   try dsimp only at hT2
   clear hK
   try simp only[fI]
   refine iU ?_;have HST:=H (HSTEP _ hb0);clear w1 w2 hT0 hS0 hT1 hT2 hGw u0 u1 u2 u3 u4 u5 u6 u7 uf x0 x1 x2 x3 y0 y1 y2 y3
   go_wp2_with fail
   go_roundw
   case rel=>exact⟨k+1,hlt,aP (Value.int IntKind.i64) (Int.natCast_succ k).symm,HST⟩
   case measure=>simp[intOf];omega
  ·obtain rfl:k=m:=om;have i1:¬(k:Int)<k:=om;have HIo:=H hI;clear hI
   go_wp2_with fail
   go_end0;have hh:=HIo.h;rw[bz (l:=V) (by rw[HV.out,HM.out];exact aB _),bz (l:=ai) (by rw[HM.out];exact aB _),bR (show ai.length<=k by rw[HM.out];exact aB _),bR (show V.length<=k by rw[HV.out,HM.out];exact aB _),aY,aY] at hh;exact⟨D,hh,HIo.gr⟩
theorem p7(h:w.grownBy W (G g))(k:W.grownBy W' (G g)):w.grownBy W' (G g):=
 ⟨k.os.trans h.os,k.tape.trans h.tape,k.output.trans h.output,aH h.size k.size,λi hi hne=>(k.block i (bK hi h.size) hne).trans (h.block i hi hne)⟩
structure RoI (b g n cap:Nat)(T P S:List eP)(w:World)(m i j:Nat)(wr:World):Prop where
 h:∃ A ai V B,fi wr b g n cap (A++(ai++(V++B)))/\T=A++(V++(ai++B))/\ai.length=i/\V.length=j/\A.length+i=m/\0<i/\0<j
 gr:w.grownBy wr (G g)
theorem Ss (P X Y S:List eP)(b g n cap:Nat)(w)(h:fi w b g n cap (P++(X++(Y++S))))(hX:0<X.length)(hY:0<Y.length)(hn:n<=100000)(a m e:Int)(ha:a=(P.length:Int))(hm:m=(P.length+X.length:Nat))(he:e=(P.length+X.length+Y.length:Nat)):
 Calls prog 375 #[Z (G ⟨g,0,E⟩) n cap,I J a,I J m,I J e,vT] w λe w'=>e= .returned (.tuple #[])/\fi w' b g n cap (P++(Y++(X++S)))/\w.grownBy w' (G g):=by
 obtain⟨p,hp⟩:=fe P.length;obtain⟨mm,hmm⟩:=fe (P.length+X.length);obtain⟨x,hx⟩:=fe X.length;obtain⟨y,hy⟩:=fe Y.length;have hI:RoI b g n cap (P++(Y++(X++S))) P S w mm x y w:=⟨⟨P,X,Y,S,h,D,hx.symm,hy.symm,om,om,om⟩,pO _ _⟩;have HI:=H hI;have hnl:=h.gs.2.2.2;have hb1:mm+y<=n:=by rw[hnl];simp;omega
 rw[<-hmm] at hm he;rw[<-hy] at he;rw[<-hp] at ha;obtain⟨t,ht⟩:=fe (mm+y);rw[<-ht] at he hb1;subst ha;subst hm;subst he;obtain⟨T,hT,HT⟩:=nh (P++(Y++(X++S)));rw[<-hT] at HI ⊢;have j1:p+x=mm:=om;have j2:0<x:=om;have j3:0<y:=om;have w1:IntKind.i64.wrap ((mm:Int) - (p:Int))=(x:Int):=by rw[show(mm:Int) - (p:Int)=(x:Int) by omega];exact jh om
 have w2:IntKind.i64.wrap ((t:Int) - (mm:Int))=(y:Int):=by rw[show(t:Int) - (mm:Int)=(y:Int) by omega];exact jh om
 have j4:mm+y<=n:=om;clear h hp hmm hx hy hI hnl hT hX hY ht
 go_enter func375,ntmps375
 go_wp2_with fail
 clear w1 w2
 go_loopw [10,11] (λi j wr=>∃ u v:Nat,i= I J u/\j= I J v/\u<=mm/\mm+v<=n/\RoI b g n cap T P S w mm u v wr) (λi j _=>(intOf i).toNat+(intOf j).toNat)
 case atStart=>exact⟨x,y,D,D,om,om,HI⟩
 case round=>
  obtain⟨u,v,rfl,rfl,hu,hv,hI⟩:=hrel;obtain⟨⟨A,ai,V,B,hh,e1,e2,e3,e4,e5,e6⟩,gr⟩:=hI;rcases dY u v with hlt | heq | hgt
  ·have i1:((u:Int) != (v:Int))=Q:=by simp;omega
   have i2:¬((u:Int)>v):=om;obtain⟨d,hd⟩:=fe (v - u);obtain⟨V1,V2,eV,eV1,eV2⟩:∃ V1 V2,V=V1++V2/\V1.length=d/\V2.length=u:=⟨V.take d,V.drop d,(bA _ _).symm,fO,by rw[bm];omega⟩;subst eV;have hsw:=AM A ai V1 V2 B b g n cap;have SW:=H (λW (hW:Bl wr W)=>hsw W abt om ((mm:Int) - (u:Int)) ((mm:Int)+(d:Int)) om eC);rw[e2] at SW;have w1:IntKind.i64.wrap ((mm:Int) - (u:Int))=(mm:Int) - (u:Int):=jh om;have w2:IntKind.i64.wrap ((mm:Int)+(v:Int))=(mm:Int)+(v:Int):=jh om;have w3:IntKind.i64.wrap ((mm:Int)+(v:Int) - (u:Int))=(mm:Int)+(d:Int):=by rw[show(mm:Int)+(v:Int) - (u:Int)=(mm:Int)+(d:Int) by omega];exact jh om
   have w4:IntKind.i64.wrap ((v:Int) - (u:Int))=(d:Int):=by rw[show(v:Int) - (u:Int)=(d:Int) by omega];exact jh om
   obtain⟨E1,E2,GR⟩:=gi e1 (show A.length+u=mm/\0<u/\ai.length=u/\V1.length=d/\V2.length=u/\0<d/\d+u=v by omega) gr;clear hh e1 e2 e3 e4 hsw hd gr
   go_wp2_with (go_at_call 409;refine(SW _ Bl.eH).mono ?_;rintro e w5 ⟨rfl,hr5,gr5⟩)
   obtain⟨k1,k2,k3,k4,k5,k6,k7⟩:=E2.out;exact⟨⟨u,d,D,D,hu,om,⟨A,V2,V1,ai++B,hr5,by rw[E1.out];simp,k5,k4,k1,k2,k6⟩,p7 GR gr5⟩,eE⟩
  ·subst heq;have i1:((u:Int) != (u:Int))=z:=sm;have hsw:=AM A ai [] V B b g n cap;have SW:=H (λW (hW:Bl wr W)=>hsw W abt om ((mm:Int) - (u:Int)) (mm:Int) om eC);rw[e2] at SW;have w1:IntKind.i64.wrap ((mm:Int) - (u:Int))=(mm:Int) - (u:Int):=jh om;obtain⟨E1,GR⟩:=eN e1 gr;clear hh e1 e2 e3 e4 hsw gr
   go_wp2_with (go_at_call 409;refine(SW _ Bl.eH).mono ?_;rintro e w5 ⟨rfl,hr5,gr5⟩)
   go_end0;exact⟨D,by rw[E1.out];simpa using hr5,p7 GR gr5⟩
  ·have i1:((u:Int) != (v:Int))=Q:=by simp;omega
   have i2:(u:Int)>v:=om;obtain⟨d,hd⟩:=fe (u - v);obtain⟨U1,U2,eV,eV1,eV2⟩:∃ U1 U2,ai=U1++U2/\U1.length=v/\U2.length=d:=⟨ai.take v,ai.drop v,(bA _ _).symm,fO,by rw[bm];omega⟩;subst eV;have hsw:=AM A U1 U2 V B b g n cap;have SW:=H (λW (hW:Bl wr W)=>hsw W abt om ((mm:Int) - (u:Int)) (mm:Int) om eC);rw[eV1] at SW;have w1:IntKind.i64.wrap ((mm:Int) - (u:Int))=(mm:Int) - (u:Int):=jh om;have w4:IntKind.i64.wrap ((u:Int) - (v:Int))=(d:Int):=by rw[show(u:Int) - (v:Int)=(d:Int) by omega];exact jh om
   obtain⟨E1,E2,GR⟩:=gi e1 (show A.length+u=mm/\0<v/\V.length=v/\U1.length=v/\U2.length=d/\0<d/\d+v=u by omega) gr;clear hh e1 e2 e3 e4 hsw hd gr
   go_wp2_with (go_at_call 409;refine(SW _ Bl.eH).mono ?_;rintro e w5 ⟨rfl,hr5,gr5⟩)
   obtain⟨k1,k2,k3,k4,k5,k6,k7⟩:=E2.out;exact⟨⟨d,v,D,D,om,hv,⟨A++V,U2,U1,B,by simpa using hr5,by rw[E1.out];simp,k5,k4,eC,k6,k2⟩,p7 GR gr5⟩,eE⟩
theorem Ca {A Y B:List eP}{f:Nat}(hf:f<Y.length)(hq:q=A.length+f):(A++(Y++B))[q]?=G Y[f]:=by
 rw[hq,er om,show A.length+f - A.length=f by omega,dH hf,aW hf]
theorem MF {Y}{x:eP}{aj:Nat}(hY:fZ Y)(hC:aj<=Y.length)(h1:∀ (_h:0<aj),x.lt (Y[aj - 1]' om)=z)(h2:∀ (h:aj<Y.length),Y[aj].lt x=z):jO (x::Y) (Y.take aj++x::Y.drop aj):=by
 have hx:fZ [x]:=by simp[fZ]
 have k1:=wM hY hx (k:=aj) (j:=0) hC λh0 _=>h1 h0;have k2:=wM hx hY (k:=1) (j:=aj) sm λ_ hj=>h2 hj;have kY:fZ (Y.take aj++Y.drop aj):=by rw[bA];exact hY
 have kp:=aa8.1 kY;refine⟨aa8.2 ⟨kp.1,aa3.2 ⟨λau hz=>k2 x sm au hz,kp.2.1⟩,λy hy au hz=>?_⟩,?_⟩
 ·rcases aE.1 hz with rfl | hz
  ·exact k1 y hy au sm
  ·exact kp.2.2 y hy au hz
 ·refine List.perm_middle.trans (List.Perm.cons x ?_);rw[bA]
structure Rl (b g n cap:Nat)(P:List eP)(x:eP)(Y S:List eP)(w:World)(t:Nat)(wr:World):Prop where
 h:fi wr b g n cap (P++(Y.take t++(x::(Y.drop t++S))))
 gr:w.grownBy wr (G g)
theorem Rl.up{P}{x}{Y S}{t:Nat}(h:Rl b g n cap P x Y S w t wr)(ht:t<Y.length)(hq:q=P.length+t)(hW:Bl wr W):
 (∃ L,fi wr b g n cap L/\L[q]?=G x/\L[q+1]?=G Y[t])/\Rl b g n cap P x Y S w (t+1) (sX (sX W g q Y[t]) g (q+1) x).drew:=by
 have e1:P++(Y.take t++(x::(Y.drop t++S)))=(P++Y.take t)++x::([]++Y[t]::(Y.drop (t+1)++S)):=by
  rw[aR ht];simp only[aS,bq,bO]
 have e2:P++(Y.take (t+1)++(x::(Y.drop (t+1)++S)))=(P++Y.take t)++Y[t]::([]++x::(Y.drop (t+1)++S)):=by
  rw[aL ht];simp only[aS,bq,bO]
 have e3:P++(Y.take t++(x::(Y.drop t++S)))=(P++Y.take t++[x])++Y[t]::(Y.drop (t+1)++S):=by
  rw[e1];simp
 have q1:(P++(Y.take t++(x::(Y.drop t++S))))[q]?=G x:=by rw[e1];exact iQ eC
 have q2:(P++(Y.take t++(x::(Y.drop t++S))))[q+1]?=G Y[t]:=by rw[e3];exact iQ eC
 refine⟨⟨_,h.h,q1,q2⟩,Rw.drew ?_,Jc (oN (oN (mX h.gr hW) _ _) _ _)⟩;have h2:=fi.swap (Rw.bl h.h hW) q1 q2;rw[e1,Ia (P:=P++Y.take t) (ar:=[]) eC eC] at h2;rw[e2];exact h2
theorem Rl.down{P}{x}{Y S}{t:Nat}(h:Rl b g n cap P x Y S w (t+1) wr)(ht:t<Y.length)(hq:q=P.length+t)(hW:Bl wr W):
 (∃ L,fi wr b g n cap L/\L[q]?=G Y[t]/\L[q+1]?=G x)/\Rl b g n cap P x Y S w t (sX (sX W g (q+1) Y[t]) g q x).drew:=by
 have e1:P++(Y.take t++(x::(Y.drop t++S)))=(P++Y.take t)++x::([]++Y[t]::(Y.drop (t+1)++S)):=by
  rw[aR ht];simp only[aS,bq,bO]
 have e2:P++(Y.take (t+1)++(x::(Y.drop (t+1)++S)))=(P++Y.take t)++Y[t]::([]++x::(Y.drop (t+1)++S)):=by
  rw[aL ht];simp only[aS,bq,bO]
 have e3:P++(Y.take (t+1)++(x::(Y.drop (t+1)++S)))=(P++Y.take t++[Y[t]])++x::(Y.drop (t+1)++S):=by
  rw[e2];simp only[aS,bq,bO]
 have q1:(P++(Y.take (t+1)++(x::(Y.drop (t+1)++S))))[q]?=G Y[t]:=by rw[e2];exact iQ eC
 have q2:(P++(Y.take (t+1)++(x::(Y.drop (t+1)++S))))[q+1]?=G x:=by rw[e3];exact iQ eC
 refine⟨⟨_,h.h,q1,q2⟩,Rw.drew ?_,Jc (oN (oN (mX h.gr hW) _ _) _ _)⟩;have h2:=fi.swap (Rw.bl h.h hW) q2 q1;rw[e2,C8 (P:=P++Y.take t) (ar:=[]) eC eC] at h2;rw[e1];exact h2
theorem ZS (P:List eP)(x:eP)(Y S:List eP)(b g n cap:Nat)(w)(h:fi w b g n cap (P++(x::(Y++S))))(hY:fZ Y)(hn:n<=100000)(p t:Nat)(hp:p=P.length)(ht:t=p+1+Y.length):
 Calls prog 319 #[Z (G ⟨g,0,E⟩) n cap,I J p,I J ((p:Int)+1),I J t,vT] w (XX b g n cap P S (jO (x::Y)) w):=by
 obtain⟨hgs,hnc,hcap,hnl⟩:=h.gs;have htn:t<=n:=by rw[hnl];simp;omega
 obtain⟨y,hy,HY⟩:=nh Y.length;rw[<-hy] at ht;obtain⟨HU,HT⟩:=eN hY ht;have ht1:p+1+y<=n:=om;have ht2:(t:Int)=(p:Int)+1+(y:Int):=om;rw[ht2];obtain⟨HH,HP⟩:=eN h hp;have w0:IntKind.i64.wrap ((p:Int)+1 - (p:Int))=1:=by rw[show(p:Int)+1 - (p:Int)=1 by omega];decide
 have i0:(n:Int)<=cap:=om;clear h hY hgs hnl hy hp ht ht2 htn
 go_enter func319,ntmps319
 go_wp2_with fail
 clear w0
 go_loopw [10,11] (λi j wr=>∃ c d:Nat,i= I J ((p:Int)+1+(c:Int))/\j= I J ((p:Int)+1+(d:Int))/\c<=d/\d<=y/\(∀ (_h0:0<c) (hc:c - 1<Y.length),Y[c - 1].lt x=Q)/\(∀ (hd:d<Y.length),Y[d].lt x=z)/\Bl w wr) (λi j _=>(intOf j).toNat - (intOf i).toNat)
 case atStart=>exact⟨0,y,sm,D,aD _,aB _,λh=>absurd h om,λh=>absurd h (by rw[<-HY.out];omega),Bl.eH⟩
 case round=>
  obtain⟨c,d,rfl,rfl,hcd,hdy,h1,h2,hb⟩:=hrel;obtain⟨H1,H2⟩:=eN h1 h2;clear h1 h2;by_cases hlt:c<d
  ·obtain⟨f,hf⟩:∃ f,f=(c+d) / 2:=⟨_,D⟩;have hcf:c<=f:=om;have hfd:f<d:=om;have hfY:f<Y.length:=by rw[<-HY.out];omega
   obtain⟨q,hq⟩:=fe (p+1+f);have hL:=Rw.bl HH hb;have lx:(P++(x::(Y++S)))[p]?=G x:=iQ HP;have ly:(P++(x::(Y++S)))[q]?=G Y[f]:=by
    have e:P++(x::(Y++S))=(P++[x])++(Y++S):=sm;rw[e];exact Ca hfY (by rw[hq,HP.out];simp)
   have HF:=H (show ∃ h,Y[f]'h=Y[f] from⟨hfY,D⟩);obtain⟨yf,hyf,HYF⟩:=nh (Y[f]);rw[<-hyf] at ly;obtain⟨j1,y0,y1,y2,y3⟩:=fi.at hL ly;obtain⟨j2,x0,x1,x2,x3⟩:=fi.at hL lx;obtain⟨CM,HN⟩:=eN (λW=>mx yf x W) (uv yf x);have i1:(p:Int)+1+(c:Int)<(p:Int)+1+(d:Int):=om;have e1:((p:Int)+1+(c:Int)+((p:Int)+1+(d:Int))) / 2=(q:Int):=om;have i2:(q:Int)<n:=om;have i3:(p:Int)<n:=om;have i4:(0:Int)<=(q:Int):=om;have i5:(0:Int)<=(p:Int):=om;have b1:(p:Int)+1+(c:Int)<=9223372036854775807:=om;have hb0:=br wr;obtain⟨HB,HQ⟩:=eN hb hq;have hq2:(q:Int)=(p:Int)+1+(f:Int):=om;replace hq2:=H hq2;clear hL lx ly hyf hb hf hq HF;by_cases hl:yf.lt x=Q;have tg0:Tg 0:=⟨⟩;rotate_left;have tg0:Tg 1:=⟨⟩;rotate_left;have i8:fB yf x<0:=HN.out.2 hl;rotate_left;have i8:¬fB yf x<0:=λh=>hl (HN.out.1 h);rotate_left
   all_goals
    generalize fB yf x=au at*
    go_upto_region 5 with fail
    go_region_held3 (λw'=>Bl wr w') (exact n7) (first | (go_at_call 128;refine qx (CM _) λwc hbc=>?_))
    have hBC:Bl wr wc:=ms;have HBC:=H (HB.ca hBC);clear hbc hBC hb0 x0 x1 x2 x3 y0 y1 y2 y3 e1
    go_wp2_with fail
    go_roundw
    first
     | have _:Tg 1:=tg0
       case rel=>exact⟨c,f,D,aP (Value.int IntKind.i64) hq2,hcf,om,H1,λ_=>abe,HBC⟩
     | case rel=>exact⟨f+1,d,aP (Value.int IntKind.i64) (by have:=hq2.out;omega),D,om,hdy,λ_ _=>abe,H2,HBC⟩
    case measure=>simp[intOf];have:=hq2.out;omega
  ·obtain rfl:c=d:=om;have i1:¬(p:Int)+1+(c:Int)<(p:Int)+1+(c:Int):=om;have hM:Rl b g n cap P x Y S w 0 wr:=⟨by simpa using Rw.bl HH hb,mJ hb _⟩;obtain⟨HM,FIN⟩:=eN hM (MF (aj:=c) HU (by rw[<-HY.out];exact hdy) (λh0=>mw (H1 h0 (by rw[<-HY.out];omega))) H2);have w1:IntKind.i64.wrap ((p:Int)+1+(c:Int) - 1)=(p:Int)+(c:Int):=by rw[show(p:Int)+1+(c:Int) - 1=(p:Int)+(c:Int) by omega];exact jh om
   clear hb hM
   go_wp2_with fail
   go_loopw [13] (λk wr=>∃ t':Nat,t'<=c/\k= I J ((p:Int)+(t':Int))/\Rl b g n cap P x Y S w t' wr) (λk _=>p+c - (intOf k).toNat)
   case atStart=>exact⟨0,aD _,sm,HM⟩
   case round=>
    obtain⟨t',htc,rfl,hI⟩:=hrel;by_cases hlt:t'<c
    ·have htY:t'<Y.length:=by rw[<-HY.out];omega
     obtain⟨q,hq⟩:=fe (p+t');have hq1:q=P.length+t':=by rw[hq,HP.out]
     obtain⟨L,hL,lx,ly⟩:=(hI.up (W:=wr) htY hq1 Bl.eH).1;have HST:=H (λW (hW:Bl wr W)=>(hI.up htY hq1 hW).2);generalize Y[t']=yf at ly HST;obtain⟨j1,x0,x1,x2,x3⟩:=fi.at hL lx;obtain⟨j2,y0,y1,y2,y3⟩:=fi.at hL ly;have HGS:=H hL.gs.1;have hGw:=hL.gs.1;obtain⟨F,hF⟩:=GS.fn g 112 (cap*4);have u0:=λW (h:GS g 112 (cap*4) W)=>hF W h (q*4) om;have u1:=λW (h:GS g 112 (cap*4) W)=>hF W h (q*4+1) om;have u2:=λW (h:GS g 112 (cap*4) W)=>hF W h (q*4+2) om;have u3:=λW (h:GS g 112 (cap*4) W)=>hF W h (q*4+3) om;have u4:=λW (h:GS g 112 (cap*4) W)=>hF W h ((q+1)*4) om;have u5:=λW (h:GS g 112 (cap*4) W)=>hF W h ((q+1)*4+1) om;have u6:=λW (h:GS g 112 (cap*4) W)=>hF W h ((q+1)*4+2) om;have u7:=λW (h:GS g 112 (cap*4) W)=>hF W h ((q+1)*4+3) om;have uf:=λW j (h:GS g 112 (cap*4) W)=>h.fr j;have i1:(q:Int)<(p:Int)+(c:Int):=om;have i2:(q:Int)+1<(n:Int):=om;have i3:(0:Int)<=(q:Int)+1:=om;obtain⟨i4,i5⟩:=ln (k:=q) (m:=n) om;have hqi:(p:Int)+(t':Int)=q:=om;rw[hqi];have hq2:(q:Int)+1=(p:Int)+((t'+1:Nat):Int):=om;have HQ2:=H hq2;have w3:((q:Int)+1).toNat=q+1:=om;have w4:IntKind.i64.wrap ((q:Int)+1)=(q:Int)+1:=jh om;have hb0:=br wr;clear hI hL lx ly hF hq hq1 hqi hq2
     go_upto_region 11 with fail
     refine jI (T:=GS g 112 (cap*4)) (S:=Bl wr) [15,17] ((HGS.ca hb0).dr) (hb0.dr) λhT0 hS0=>?_
     try dsimp only at hT0 hS0
     refine aaa [0,1,2,3,4,5,6,7,8] ?_;refine td 9 ?_;refine aaa [10,11,12] ?_;refine td 13 ?_;refine qd 14 ?_;refine eK 15 λKQ hK=>?_;go_simp;refine fJ (hK _ _) (GS.dr (GS.st (GS.st (GS.st (GS.st (GS.un hT0) _ _) _ _) _ _) _ _)) (eI (j:=15) kr kr) (λhT1=>?_)
     try dsimp only at hT1
     clear hK
     try simp only[fI]
     refine tz 16 hT1 (eI (j:=15) kr kr) ?_;refine eK 17 λKQ hK=>?_;go_simp;refine fJ (hK _ _) (GS.dr (GS.st (GS.st (GS.st (GS.st (GS.un hT1) _ _) _ _) _ _) _ _)) (eI (j:=17) kr kr) (λhT2=>?_)
     try dsimp only at hT2
     clear hK
     try simp only[fI]
     refine iU ?_;have HS2:=H (HST _ hb0);clear w1 w3 w4 hT0 hS0 hT1 hT2 hGw u0 u1 u2 u3 u4 u5 u6 u7 uf x0 x1 x2 x3 y0 y1 y2 y3
     go_wp2_with fail
     go_roundw
     case rel=>exact⟨t'+1,hlt,aP (Value.int IntKind.i64) HQ2,HS2⟩
     case measure=>simp[intOf];have:=HQ2.out;omega
    ·obtain rfl:t'=c:=om;have i1:¬(p:Int)+(t':Int)<(p:Int)+(t':Int):=om;have HIo:=H hI;clear hI
     go_wp2_with fail
     go_end0;exact⟨D,_,FIN,by have k:=HIo.h;simpa using k,HIo.gr⟩
theorem ZR (P X:List eP)(au:eP)(S:List eP)(b g n cap:Nat)(w)(h:fi w b g n cap (P++(X++(au::S))))(hX:fZ X)(h2:2<=X.length)(hn:n<=100000)(p m:Nat)(hp:p=P.length)(hm:m=p+X.length):
 Calls prog 319 #[Z (G ⟨g,0,E⟩) n cap,I J p,I J m,I J ((m:Int)+1),vT] w (XX b g n cap P S (jO (X++[au])) w):=by
 obtain⟨hgs,hnc,hcap,hnl⟩:=h.gs;have htn:m+1<=n:=by rw[hnl];simp;omega
 obtain⟨x,hx,HX⟩:=nh X.length;rw[<-hx] at hm h2;obtain⟨HU,HM,HH,HP⟩:=kB hX hm h hp;have hpm:p+x<=m:=om;have hm2:(m:Int)=(p:Int)+(x:Int):=om;have HM2:=H hm2;have w0:IntKind.i64.wrap ((m:Int) - (p:Int))=(x:Int):=by rw[show(m:Int) - (p:Int)=(x:Int) by omega];exact jh om
 have w1:IntKind.i64.wrap ((m:Int)+1 - (m:Int))=1:=by rw[show(m:Int)+1 - (m:Int)=1 by omega];decide
 have e0:((x:Int)==1)=z:=by rw[aX];omega
 have i0:(n:Int)<=cap:=om;clear h hX hgs hnl hx hp hm hm2
 go_enter func319,ntmps319
 go_wp2_with fail
 clear w0 w1
 go_loopw [14,15] (λi j wr=>∃ c d:Nat,i= I J ((p:Int)+(c:Int))/\j= I J ((p:Int)+(d:Int))/\c<=d/\d<=x/\(∀ (_h0:0<c) (hc:c - 1<X.length),au.lt X[c - 1]=z)/\(∀ (hd:d<X.length),au.lt X[d]=Q)/\Bl w wr) (λi j _=>(intOf j).toNat - (intOf i).toNat)
 case atStart=>exact⟨0,x,sm,aP (Value.int IntKind.i64) HM2,aD _,aB _,λh=>absurd h om,λh=>absurd h (by rw[<-HX.out];omega),Bl.eH⟩
 case round=>
  obtain⟨c,d,rfl,rfl,hcd,hdy,h1,h2,hb⟩:=hrel;obtain⟨H1,H2⟩:=eN h1 h2;clear h1 h2;by_cases hlt:c<d
  ·obtain⟨f,hf⟩:∃ f,f=(c+d) / 2:=⟨_,D⟩;have hcf:c<=f:=om;have hfd:f<d:=om;have hfY:f<X.length:=by rw[<-HX.out];omega
   obtain⟨q,hq⟩:=fe (p+f);have hL:=Rw.bl HH hb;have lx:(P++(X++(au::S)))[m]?=G au:=by
    have e:P++(X++(au::S))=(P++X)++au::S:=sm;rw[e];exact iQ (by rw[HM.out,HP.out,HX.out];simp)
   have ly:(P++(X++(au::S)))[q]?=G X[f]:=Ca hfY (by rw[hq,HP.out]);obtain⟨yf,hyf,HYF⟩:=nh (X[f]);rw[<-hyf] at ly;obtain⟨j1,y0,y1,y2,y3⟩:=fi.at hL ly;obtain⟨j2,x0,x1,x2,x3⟩:=fi.at hL lx;obtain⟨CM,HN⟩:=eN (λW=>mx au yf W) (uv au yf);have i1:(p:Int)+(c:Int)<(p:Int)+(d:Int):=om;have e1:((p:Int)+(c:Int)+((p:Int)+(d:Int))) / 2=(q:Int):=om;have i2:(q:Int)<n:=om;have i3:(m:Int)<n:=om;have i4:(0:Int)<=(q:Int):=om;have i5:(0:Int)<=(m:Int):=om;have hb0:=br wr;have HB:=H hb;have hq2:(q:Int)=(p:Int)+(f:Int):=om;replace hq2:=H hq2;clear hL lx ly hyf hb hf hq;by_cases hl:au.lt yf=Q;have tg0:Tg 0:=⟨⟩;rotate_left;have tg0:Tg 1:=⟨⟩;rotate_left;have i8:fB au yf<0:=HN.out.2 hl;have i9:(!decide (fB au yf<0))=z:=by simp[i8]
   rotate_left;have i8:¬fB au yf<0:=λh=>hl (HN.out.1 h);have i9:(!decide (fB au yf<0))=Q:=by simp only[i8,decide_false,Bool.not_false]
   rotate_left
   all_goals
    generalize fB au yf=v at*
    go_upto_region 17 with fail
    go_region_held3 (λw'=>Bl wr w') (exact n7) (first | (go_at_call 128;refine qx (CM _) λwc hbc=>?_))
    have hBC:Bl wr wc:=ms;have HBC:=H (HB.ca hBC);clear hbc hBC hb0 x0 x1 x2 x3 y0 y1 y2 y3 e1
    go_wp2_with fail
    go_roundw
    first
     | have _:Tg 1:=tg0
       case rel=>exact⟨f+1,d,aP (Value.int IntKind.i64) (by have:=hq2.out;omega),D,om,hdy,λ_ _=>abe,H2,HBC⟩
     | case rel=>exact⟨c,f,D,aP (Value.int IntKind.i64) hq2,hcf,om,H1,λ_=>by rw[HYF.out] at hl;exact hl,HBC⟩
    case measure=>simp[intOf];have:=hq2.out;omega
  ·obtain rfl:c=d:=om;have i1:¬(p:Int)+(c:Int)<(p:Int)+(c:Int):=om;have hM:Rl b g n cap P au X S w x wr:=⟨by rw[bz (by rw[HX.out];exact aB _),bR (by rw[HX.out];exact aB _),bO];exact Rw.bl HH hb,mJ hb _⟩;obtain⟨HMV,FIN⟩:=eN hM (MF (aj:=c) HU (by rw[<-HX.out];exact hdy) (λh0=>H1 h0 (by rw[<-HX.out];omega)) (λhh=>mw (H2 hh)));clear hb hM
   go_wp2_with fail
   go_loopw [17] (λk wr=>∃ t':Nat,c<=t'/\t'<=x/\k= I J ((p:Int)+(t':Int))/\Rl b g n cap P au X S w t' wr) (λk _=>(intOf k).toNat)
   case atStart=>exact⟨x,hdy,aB _,aP (Value.int IntKind.i64) HM2,HMV⟩
   case round=>
    obtain⟨t',hct,htx,rfl,hI⟩:=hrel;by_cases hlt:c<t'
    ·obtain⟨t,rfl⟩:∃ t,t'=t+1:=⟨t' - 1,om⟩;have htY:t<X.length:=by rw[<-HX.out];omega
     obtain⟨q,hq⟩:=fe (p+t);have hq1:q=P.length+t:=by rw[hq,HP.out]
     obtain⟨L,hL,lx,ly⟩:=(hI.down (W:=wr) htY hq1 Bl.eH).1;have HST:=H (λW (hW:Bl wr W)=>(hI.down htY hq1 hW).2);generalize X[t]=yf at lx HST;obtain⟨j1,x0,x1,x2,x3⟩:=fi.at hL lx;obtain⟨j2,y0,y1,y2,y3⟩:=fi.at hL ly;have HGS:=H hL.gs.1;have hGw:=hL.gs.1;obtain⟨F,hF⟩:=GS.fn g 112 (cap*4);have u0:=λW (h:GS g 112 (cap*4) W)=>hF W h ((q+1)*4) om;have u1:=λW (h:GS g 112 (cap*4) W)=>hF W h ((q+1)*4+1) om;have u2:=λW (h:GS g 112 (cap*4) W)=>hF W h ((q+1)*4+2) om;have u3:=λW (h:GS g 112 (cap*4) W)=>hF W h ((q+1)*4+3) om;have u4:=λW (h:GS g 112 (cap*4) W)=>hF W h (q*4) om;have u5:=λW (h:GS g 112 (cap*4) W)=>hF W h (q*4+1) om;have u6:=λW (h:GS g 112 (cap*4) W)=>hF W h (q*4+2) om;have u7:=λW (h:GS g 112 (cap*4) W)=>hF W h (q*4+3) om;have uf:=λW j (h:GS g 112 (cap*4) W)=>h.fr j;have hqi:(p:Int)+((t+1:Nat):Int)=(q:Int)+1:=om;rw[hqi];have i1:(q:Int)+1>(p:Int)+(c:Int):=om;have i2:(q:Int)+1<(n:Int):=om;have i3:(0:Int)<=(q:Int)+1:=om;obtain⟨i4,i5⟩:=ln (k:=q) (m:=n) om;have hq2:(q:Int)=(p:Int)+(t:Int):=om;have HQ2:=H hq2;have w3:((q:Int)+1).toNat=q+1:=om;have w4:IntKind.i64.wrap (q:Int)=q:=jh om;have hb0:=br wr;clear hI hL lx ly hF hq hq1 hqi hq2
     go_upto_region 23 with fail
     refine jI (T:=GS g 112 (cap*4)) (S:=Bl wr) [15,17] ((HGS.ca hb0).dr) (hb0.dr) λhT0 hS0=>?_
     try dsimp only at hT0 hS0
     refine aaa [0,1,2,3,4,5,6,7,8] ?_;refine td 9 ?_;refine aaa [10,11,12] ?_;refine td 13 ?_;refine qd 14 ?_;refine eK 15 λKQ hK=>?_;go_simp;refine fJ (hK _ _) (GS.dr (GS.st (GS.st (GS.st (GS.st (GS.un hT0) _ _) _ _) _ _) _ _)) (eI (j:=15) kr kr) (λhT1=>?_)
     try dsimp only at hT1
     clear hK
     try simp only[fI]
     refine tz 16 hT1 (eI (j:=15) kr kr) ?_;refine eK 17 λKQ hK=>?_;go_simp;refine fJ (hK _ _) (GS.dr (GS.st (GS.st (GS.st (GS.st (GS.un hT1) _ _) _ _) _ _) _ _)) (eI (j:=17) kr kr) (λhT2=>?_)
     try dsimp only at hT2
     clear hK
     try simp only[fI]
     refine iU ?_;have HS2:=H (HST _ hb0);clear w3 w4 hT0 hS0 hT1 hT2 hGw u0 u1 u2 u3 u4 u5 u6 u7 uf x0 x1 x2 x3 y0 y1 y2 y3
     go_wp2_with fail
     go_roundw
     case rel=>exact⟨t,Nat.le_of_lt_succ hlt,Nat.le_of_succ_le htx,aP (Value.int IntKind.i64) HQ2,HS2⟩
     case measure=>simp[intOf]
    ·obtain rfl:c=t':=om;have i1:¬(p:Int)+(c:Int)>(p:Int)+(c:Int):=om;have HIo:=H hI;clear hI
     go_wp2_with fail
     go_end0;exact⟨D,_,⟨FIN.out.1,FIN.out.2.trans (cZ (l₁:=[au]))⟩,by have k:=HIo.h;simpa using k,HIo.gr⟩
def Zw (b g n cap:Nat)(P X Y S:List eP):Prop:=∀ (W:World) (p m e:Nat),fi W b g n cap (P++(X++(Y++S)))->fZ X->fZ Y->0<X.length->0<Y.length->p=P.length->m=p+X.length->e=m+Y.length->
 Calls prog 319 #[Z (G ⟨g,0,E⟩) n cap,I J p,I J m,I J e,vT] W (XX b g n cap P S (jO (X++Y)) W)
structure Mp (p m mid e:Nat)(X Y:List eP)(s r:Nat):Prop where
 sr:s<=r
 ps:p<=s
 rm:r<=m
 rd:r<=mid
 se:mid<=s+Y.length
 i1:∀ (_h:p<s) (h1:mid - s<Y.length) (h2:s - p - 1<X.length),Y[mid - s].lt X[s - p - 1]=z
 i2:∀ (_h:r<mid) (h1:mid - r - 1<Y.length) (h2:r - p<X.length),Y[mid - r - 1].lt X[r - p]=Q
theorem Mp.lo {p e:Nat}{X Y}(h:Mp p m mid e X Y s r)(h1:s<=c)(h2:c<r)(hy:mid - c - 1<Y.length)(hx:c - p<X.length)(hl:¬Y[mid - c - 1].lt X[c - p]=Q):Mp p m mid e X Y (c+1) r:=by
 obtain⟨a1,a2,a3,a4,a5,a6,a7⟩:=h;refine⟨om,om,a3,a4,om,λ_ k1 k2=>?_,a7⟩;have e1:mid - (c+1)=mid - c - 1:=om;have e2:c+1 - p - 1=c - p:=om;simp only[e1,e2];simpa using hl
theorem Mp.hi {p e:Nat}{X Y}(h:Mp p m mid e X Y s r)(h1:s<=c)(h2:c<r)(hy:mid - c - 1<Y.length)(hx:c - p<X.length)(hl:Y[mid - c - 1].lt X[c - p]=Q):Mp p m mid e X Y s c:=by
 obtain⟨a1,a2,a3,a4,a5,a6,a7⟩:=h;exact⟨h1,a2,om,om,a5,a6,λ_ _ _=>hl⟩
theorem Mp.end_ {p e:Nat}{X Y}(h:Mp p m mid e X Y s s)(hX:fZ X)(hY:fZ Y)(hm:m=p+X.length)(he:e=m+Y.length):
 (∀ x∈X.take (s - p),∀ y∈Y.drop (mid - s),y.lt x=z)/\(∀ y∈Y.take (mid - s),∀ x∈X.drop (s - p),x.lt y=z):=by
 obtain⟨a1,a2,a3,a4,a5,a6,a7⟩:=h;refine⟨wM hX hY om λh0 hj=>a6 om hj om,T9 hX hY om λh0 hk=>?_⟩;exact a7 om om hk
structure tw (X Y X1 X2 Y1 Y2:List eP)(p m mid e s en:Nat):Prop where
 eX:X=X1++X2
 eY:Y=Y1++Y2
 l1:p+X1.length=s
 l2:s+X2.length=m
 l3:s+Y1.length=mid
 l4:en+Y2.length=e
 l5:en+s=mid+m
 a1:∀ x∈X1,∀ y∈Y2,y.lt x=z
 a2:∀ y∈Y1,∀ x∈X2,x.lt y=z
 uX:fZ X
 uY:fZ Y
theorem tw.of {X Y}{p e:Nat}(h:Mp p m mid e X Y s s)(hX:fZ X)(hY:fZ Y)(hm:m=p+X.length)(he:e=m+Y.length):∃ X1 X2 Y1 Y2 en,tw X Y X1 X2 Y1 Y2 p m mid e s en:=by
 obtain⟨k1,k2⟩:=h.end_ hX hY hm he;obtain⟨a1,a2,a3,a4,a5,_,_⟩:=h;refine⟨X.take (s - p),X.drop (s - p),Y.take (mid - s),Y.drop (mid - s),mid+m - s,(bA _ _).symm,(bA _ _).symm,?_,?_,?_,?_,om,k1,k2,hX,hY⟩
 ·rw[aK];omega
 ·rw[bm];omega
 ·rw[aK];omega
 ·rw[bm];omega
section
variable {X Y X1 X2 Y1 Y2 P S:List eP}{p m mid e s en b g n cap:Nat}{W:World}
theorem tw.UQ (c:tw X Y X1 X2 Y1 Y2 p m mid e s en):fZ X1/\fZ X2/\fZ Y1/\fZ Y2:=by
 have h1:=c.uX;have h2:=c.uY;rw[c.eX] at h1;rw[c.eY] at h2;have k1:=aa8.1 h1;have k2:=aa8.1 h2;exact⟨k1.1,k1.2.1,k2.1,k2.2.1⟩
theorem tw.row (c:tw X Y X1 X2 Y1 Y2 p m mid e s en)(h:fi W b g n cap (P++(X++(Y++S)))):fi W b g n cap ((P++X1)++(X2++(Y1++(Y2++S)))):=by
 have h:=h;rw[c.eX,c.eY] at h;simpa using h
theorem tw.r1 (c:tw X Y X1 X2 Y1 Y2 p m mid e s en)(h:fi W b g n cap (P++(X++(Y++S))))(hz:s=m∨s=mid):fi W b g n cap (P++(X1++(Y1++(X2++(Y2++S))))):=by
 have h:=c.row h;rcases hz with hz | hz
 ·have:X2=[]:=aa6.1 (by have:=c.l2;omega);rw[this] at h ⊢;simpa using h
 ·have:Y1=[]:=aa6.1 (by have:=c.l3;omega);rw[this] at h ⊢;simpa using h
theorem tw.n1 (c:tw X Y X1 X2 Y1 Y2 p m mid e s en)(hz:p=s∨s=mid):jO (X1++Y1) (X1++Y1):=by
 refine⟨?_,.refl _⟩;rcases hz with hz | hz
 ·have:X1=[]:=aa6.1 (by have:=c.l1;omega);rw[this];exact c.UQ.2.2.1
 ·have:Y1=[]:=aa6.1 (by have:=c.l3;omega);rw[this,aY];exact c.UQ.1
theorem tw.n2 (c:tw X Y X1 X2 Y1 Y2 p m mid e s en)(hz:s=m∨en=e):jO (X2++Y2) (X2++Y2):=by
 refine⟨?_,.refl _⟩;rcases hz with hz | hz
 ·have:X2=[]:=aa6.1 (by have:=c.l2;omega);rw[this];exact c.UQ.2.2.2
 ·have:Y2=[]:=aa6.1 (by have:=c.l4;omega);rw[this,aY];exact c.UQ.2.1
theorem tw.fin (c:tw X Y X1 X2 Y1 Y2 p m mid e s en){M1 M2}(h1:jO (X1++Y1) M1)(h2:jO (X2++Y2) M2):jO (X++Y) (M1++M2):=by
 have k1:=c.uX;have k2:=c.uY;rw[c.eX] at k1 ⊢;rw[c.eY] at k2 ⊢;exact Rs k1 k2 c.a1 c.a2 h1.2 h2.2 h1.1 h2.1
end
theorem ZQ (P X Y S:List eP)(b g n cap:Nat)(w)(h:fi w b g n cap (P++(X++(Y++S))))(hX:fZ X)(hY:fZ Y)(h1:2<=X.length)(h2:2<=Y.length)(hn:n<=100000)(p m e:Nat)(hp:p=P.length)(hm:m=p+X.length)(he:e=m+Y.length)
 (ih:∀ P' X' Y' S',X'.length+Y'.length<X.length+Y.length->Zw b g n cap P' X' Y' S'):
 Calls prog 319 #[Z (G ⟨g,0,E⟩) n cap,I J p,I J m,I J e,vT] w (XX b g n cap P S (jO (X++Y)) w):=by
 obtain⟨hgs,hnc,hcap,hnl⟩:=h.gs;have hen:e<=n:=by rw[hnl];simp;omega
 obtain⟨x,hx⟩:=fe X.length;obtain⟨y,hy⟩:=fe Y.length;obtain⟨mid,hmid⟩:=fe ((p+e) / 2);have hpm:p+2<=m:=om;have hme:m+2<=e:=om;have hmi:p<mid/\mid<e:=om;obtain⟨HD,HH,HU,HI⟩:=kB (show m=p+x/\e=m+y/\mid=(p+e) / 2/\x=X.length/\y=Y.length/\p=P.length by omega) h (aJ hX hY) ih;have w0:IntKind.i64.wrap ((m:Int) - (p:Int))=(x:Int):=by rw[show(m:Int) - (p:Int)=(x:Int) by omega];exact jh om
 have w1:IntKind.i64.wrap ((e:Int) - (m:Int))=(y:Int):=by rw[show(e:Int) - (m:Int)=(y:Int) by omega];exact jh om
 have e0:((x:Int)==1)=z:=by rw[aX];omega
 have e1:((y:Int)==1)=z:=by rw[aX];omega
 have e2:((p:Int)+(e:Int)) / 2=(mid:Int):=om;have i0:(n:Int)<=cap:=om;have hc:(mid<m/\∃ s0,mid+m=e+s0)∨¬mid<m:=by
  by_cases hq:mid<m
  ·exact aG ⟨hq,mid+m - e,om⟩
  ·exact aI hq
 obtain⟨hp1,hp2⟩:=hmi;clear h hX hY hgs hnl hx hy hmid hp hm he ih h1 h2;rcases hc with⟨hq,s0,hs0⟩ | hq
 have i1:(m:Int)>mid:=om;have w2:IntKind.i64.wrap ((mid:Int)+(m:Int) - (e:Int))=(s0:Int):=by rw[show(mid:Int)+(m:Int) - (e:Int)=(s0:Int) by omega];exact jh om
 have hSR:Mp p m mid e X Y s0 mid:=by
  obtain⟨d1,d2,d3,d4,d5,d6⟩:=HD.out;exact⟨om,om,om,aB _,om,λ_ k1 _=>absurd k1 om,λk=>absurd k om⟩
 rotate_left;have i1:¬(m:Int)>mid:=om;have hSR:Mp p m mid e X Y p m:=by
  obtain⟨d1,d2,d3,d4,d5,d6⟩:=HD.out;exact⟨om,om,om,om,om,λk=>absurd k om,λ_ _ k=>absurd k om⟩
 rotate_left
 all_goals
  replace hSR:=H hSR
 replace hs0:=H hs0;rotate_left;rotate_left
 all_goals
  go_enter func319,ntmps319
  go_upto_region 33 with fail
 clear w0 w1 w2 e0 e1 e2 hs0;rotate_left;clear w0 w1 e0 e1 e2;rotate_left
 all_goals
  go_loopw [20,21] (λi j wr=>∃ s r:Nat,i= I J s/\j= I J r/\Mp p m mid e X Y s r/\Bl w wr) (λi j _=>(intOf j).toNat - (intOf i).toNat)
  case atStart=>exact⟨_,_,D,D,hSR,Bl.eH⟩
  case round=>
   obtain⟨s,r,rfl,rfl,hcu,hb⟩:=hrel;obtain⟨k1,k2,k3,k4,k5⟩:s<=r/\p<=s/\r<=m/\r<=mid/\mid<=s+y:=⟨hcu.sr,hcu.ps,hcu.rm,hcu.rd,by have h1:=hcu.se;have h2:=HD.out.2.2.2.2.1;omega⟩;obtain⟨HC,HB⟩:=eN hcu hb;clear hcu;by_cases hlt:s<r
   ·obtain⟨c,hc⟩:∃ c,c=(s+r) / 2:=⟨_,D⟩;have hsc:s<=c:=om;have hcr:c<r:=om;obtain⟨d1,d2,d3,d4,d5,d6⟩:=HD.out;have hxl:c - p<X.length:=om;have hyl:mid - c - 1<Y.length:=om;obtain⟨q,hq⟩:=fe (m+(mid - c - 1));have hqi:(mid:Int)+(m:Int) - 1 - (c:Int)=q:=om;have hqn:q<n:=om;have hL:=Rw.bl HH hb;have lx:(P++(X++(Y++S)))[c]?=G X[c - p]:=Ca hxl om;have ly:(P++(X++(Y++S)))[q]?=G Y[mid - c - 1]:=by
     have e:P++(X++(Y++S))=(P++X)++(Y++S):=sm;rw[e];exact Ca hyl (by rw[hq];simp;omega)
    obtain⟨LO,HIc⟩:=eN (HC.lo hsc hcr hyl hxl) (HC.hi hsc hcr hyl hxl);generalize X[c - p]=xc at lx LO HIc;generalize Y[mid - c - 1]=yc at ly LO HIc;obtain⟨j1,y0,y1,y2,y3⟩:=fi.at hL ly;obtain⟨j2,x0,x1,x2,x3⟩:=fi.at hL lx;obtain⟨CM,HN⟩:=eN (λW=>mx yc xc W) (uv yc xc);have i3:(s:Int)<r:=om;have e4:((s:Int)+(r:Int)) / 2=(c:Int):=om;have i4:(q:Int)<n:=om;have i5:(c:Int)<n:=om;have i6:(0:Int)<=(q:Int):=om;have i7:(0:Int)<=(c:Int):=om;have w4:IntKind.i64.wrap ((mid:Int)+(m:Int) - 1 - (c:Int))=(q:Int):=by rw[hqi];exact jh om
    have hb0:=br wr;clear hL lx ly hb hc hq hqi d1 d2 d3 d4 d5 d6 hxl hyl;by_cases hl:yc.lt xc=Q;have tg0:Tg 0:=⟨⟩;rotate_left;have tg0:Tg 1:=⟨⟩;rotate_left;have i8:fB yc xc<0:=HN.out.2 hl;have i9:(!decide (fB yc xc<0))=z:=by simp[i8]
    rotate_left;have i8:¬fB yc xc<0:=λh=>hl (HN.out.1 h);have i9:(!decide (fB yc xc<0))=Q:=by simp only[i8,decide_false,Bool.not_false]
    rotate_left
    all_goals
     generalize fB yc xc=v at*
     go_upto_region 35 with fail
     go_region_held3 (λw'=>Bl wr w') (exact n7) (first | (go_at_call 128;refine qx (CM _) λwc hbc=>?_))
     have hBC:Bl wr wc:=ms;have HBC:=H (HB.ca hBC);clear w4 hbc hBC hb0 x0 x1 x2 x3 y0 y1 y2 y3 e4
     go_wp2_with fail
     go_roundw
     first
      | have _:Tg 1:=tg0
        case rel=>exact⟨c+1,r,aP (Value.int IntKind.i64) (Int.natCast_succ c).symm,D,LO hl,HBC⟩
      | case rel=>exact⟨s,c,D,D,HIc hl,HBC⟩
     case measure=>simp[intOf];omega
   ·obtain rfl:s=r:=om;have i3:¬(s:Int)<s:=om;obtain⟨X1,X2,Y1,Y2,en,hcd⟩:=tw.of HC HU.out.1 HU.out.2 (by rw[<-HD.out.2.2.2.1];exact HD.out.1) (by rw[<-HD.out.2.2.2.2.1];exact HD.out.2.1);obtain⟨d1,d2,d3,d4,d5,d6⟩:=HD.out;obtain⟨b1,b2,b3,b4,b5⟩:=aJ hcd.l1 (aJ hcd.l2 (aJ hcd.l3 (aJ hcd.l4 hcd.l5)));have hen1:(mid:Int)+(m:Int) - (s:Int)=en:=om;have w5:IntKind.i64.wrap ((mid:Int)+(m:Int) - (s:Int))=(en:Int):=by rw[hen1];exact jh om
    have hene:en<=e:=om;have hlx:X1.length+X2.length=X.length:=by rw[hcd.eX];simp
    have hly:Y1.length+Y2.length=Y.length:=by rw[hcd.eY];simp
    obtain⟨HW,GR⟩:=eN (Rw.bl HH hb) (mJ hb (G g));have ROT:=H (λ(h1:s<m) (h2:s<mid)=>Ss (P++X1) X2 Y1 (Y2++S) b g n cap wr (hcd.row HW) om om hn (s:Int) (m:Int) (en:Int) eC eC eC);have S1:=H (λ(W:World) (hW:fi W b g n cap (P++(X1++(Y1++(X2++(Y2++S)))))) (h1:p<s) (h2:s<mid)=>HI P X1 Y1 (X2++(Y2++S)) om W p s mid hW hcd.UQ.1 hcd.UQ.2.2.1 om om d6 om om);have S2:=H (λ(W:World) (M1:List eP) (hM:jO (X1++Y1) M1) (hW:fi W b g n cap (P++(M1++(X2++(Y2++S))))) (h1:s<m) (h2:en<e)=>HI (P++M1) X2 Y2 S om W mid en e (by simpa using hW) hcd.UQ.2.1 hcd.UQ.2.2.2 om om (by have k:=hM.2.length_eq;simp at k ⊢;omega) om om);have CD:=H hcd;clear hb hcd d1 d2 d3 d4 d5 d6 b1 b2 b3 b4 b5 hen1 hlx hly hlt;by_cases c1:(s:Int)<m
    ·by_cases c2:(s:Int)<mid
     ·by_cases c3:(p:Int)<s;have tg1:Tg 0:=⟨⟩;rotate_left;have tg1:Tg 1:=⟨⟩;rotate_left
      all_goals
       by_cases c4:(en:Int)<e;have tg0:Tg 0:=⟨⟩;rotate_left;have tg0:Tg 1:=⟨⟩;rotate_left
       all_goals
        have c5:(mid:Int)<en:=by have k:=CD.l5;omega
        have c6:(m:Int)<en:=by have k:=CD.l5;omega
        go_upto_region 41 with(go_at_call 375;refine(ROT om om).mono ?_;rintro e w5 ⟨rfl,hr5,gr5⟩)
        have R1:=H (show fi w5 b g n cap (P++(X1++(Y1++(X2++(Y2++S))))) by simpa using hr5);have G1:=H (p7 GR gr5);clear hr5 gr5
        first
         | have _:Tg 1:=tg1
           go_upto_region 43 with fail
           have M1H:=H (CD.n1 om);have R2:=H (show fi w5 b g n cap (P++((X1++Y1)++(X2++(Y2++S)))) by simpa using R1.out);exact rO
         | go_upto_region 43 with(go_at_call 319;refine(S1 _ R1 om om).mono ?_;rintro e w6 ⟨rfl,M1,hM0,hr6,gr6⟩)
           obtain⟨M1H,R2,G2⟩:=gi hM0 hr6 (p7 G1 gr6);clear hM0 hr6 gr6
           first
            | have _:Tg 1:=tg0
              go_wp2_with fail
            | go_wp2_with (go_at_call 319;refine(S2 _ _ M1H R2 om om).mono ?_;rintro e w7 ⟨rfl,M2,hM1,hr7,gr7⟩)
           all_goals
            go_end0
            first
             | have _:Tg 1:=tg0
               exact abm
             | exact⟨D,_,CD.fin M1H hM1,by simpa using hr7,p7 G2 gr7⟩
     ·by_cases c3:(p:Int)<s
      all_goals
       by_cases c4:(en:Int)<e;have tg0:Tg 0:=⟨⟩;rotate_left;have tg0:Tg 1:=⟨⟩;rotate_left
       all_goals
        have c5:(mid:Int)<en:=by have k:=CD.l5;omega
        have c6:¬(m:Int)<en:=by have k:=CD.l5;omega
        go_upto_region 41 with fail
        have R1:=H (CD.r1 (P:=P) (S:=S) HW om);have G1:=GR
        go_upto_region 43 with fail
        have M1H:=H (CD.n1 om);have R2:=H (show fi wr b g n cap (P++((X1++Y1)++(X2++(Y2++S)))) by simpa using R1.out);exact rO
    ·by_cases c2:(s:Int)<mid
     ·by_cases c3:(p:Int)<s;have tg0:Tg 0:=⟨⟩;rotate_left;have tg0:Tg 1:=⟨⟩;rotate_left
      all_goals
       by_cases c4:(en:Int)<e
       all_goals
        have c5:¬(mid:Int)<en:=by have k:=CD.l5;omega
        have c6:(m:Int)<en:=by have k:=CD.l5;omega
        go_upto_region 41 with fail
        have R1:=H (CD.r1 (P:=P) (S:=S) HW om);have G1:=GR
        first
         | have _:Tg 1:=tg0
           go_upto_region 43 with fail
           have M1H:=H (CD.n1 om);have R2:=H (show fi wr b g n cap (P++((X1++Y1)++(X2++(Y2++S)))) by simpa using R1.out);have G2:=G1
         | go_upto_region 43 with(go_at_call 319;refine(S1 _ R1 om om).mono ?_;rintro e w6 ⟨rfl,M1,hM0,hr6,gr6⟩)
           obtain⟨M1H,R2,G2⟩:=gi hM0 hr6 (p7 G1 gr6);clear hM0 hr6 gr6
        go_wp2_with fail
        all_goals
         go_end0;exact abm
     ·by_cases c3:(p:Int)<s
      all_goals
       by_cases c4:(en:Int)<e
       all_goals
        have c5:¬(mid:Int)<en:=by have k:=CD.l5;omega
        have c6:¬(m:Int)<en:=by have k:=CD.l5;omega
        go_upto_region 41 with fail
        have R1:=H (CD.r1 (P:=P) (S:=S) HW om);have G1:=GR
        go_upto_region 43 with fail
        have M1H:=H (CD.n1 om);have R2:=H (show fi wr b g n cap (P++((X1++Y1)++(X2++(Y2++S)))) by simpa using R1.out);have G2:=G1
        go_wp2_with fail
        all_goals
         go_end0;exact abm
theorem Hz:∀ (N:Nat) (P X Y S:List eP) (b g n cap:Nat),n<=100000->X.length+Y.length<=N->Zw b g n cap P X Y S:=by
 intro N
 induction N with
 | zero=>
  intro P X Y S b g n cap _ hN W p m e _ _ _ h1 _;omega
 | succ N ih=>
  intro P X Y S b g n cap hn hN W p m e h hX hY h1 h2 hp hm he;by_cases hx:X.length=1
  ·match X,hx with
   | [x],_=>
    have k:=ZS P x Y S b g n cap W fc hY hn p e hp (by rw[he,hm];rfl);have e1:(m:Int)=(p:Int)+1:=by rw[hm];rfl
    rw[e1];exact k
  ·by_cases hy:Y.length=1
   ·match Y,hy with
    | [au],_=>
     have k:=ZR P X au S b g n cap W fc hX om hn p m hp hm;have e1:(e:Int)=(m:Int)+1:=by rw[he];rfl
     rw[e1];exact k
   ·exact ZQ P X Y S b g n cap W h hX hY om om hn p m e hp hm he λP' X' Y' S' hl=>ih P' X' Y' S' b g n cap hn om
