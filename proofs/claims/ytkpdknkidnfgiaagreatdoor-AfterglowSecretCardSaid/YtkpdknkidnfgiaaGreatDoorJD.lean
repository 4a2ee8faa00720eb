/- Lemmas for AfterglowSecret: what functions of the program return; no condition. -/
import Derived.ProofKit
import Derived.OpenShut
import Derived.SizedLaws
import Derived.Test.YtkpdknkidnfgiaaGreatDoorJC
set_option maxHeartbeats 0
set_option maxRecDepth 100000
set_option linter.unusedVariables false
open Go.Value renaming int->I,string->C,slice->Z
open Go.IntKind renaming i64->J,u8->U
open Option renaming none->E,some->G
open Bool renaming true->Q,false->z
open Go.Lib renaming hid->H
open Go.Proofs.Tryz
namespace Go.Proofs.YtkpdknkidnfgiaaGreatDoor
variable {a:ByteArray} {N aq b cap g k kb n off:Nat} {t ty:TypeId} {W w w' wr:World}
namespace Ds
open Go.RowKit Go.Maps DkM
def Fq (S:Dk)(A:List Fl)(j:Nat):Dk:={S with L:=A++S.L.drop j,used:=(mV (A++S.L.drop j):Nat)}
theorem QW {S}(B:Bd S):Fq S [] 0=S:=by
 have:=B.used;cases S;unfold Fq;simp at this ⊢;exact this.symm
def Aw (S:Dk)(ks:List Int)(p b:Nat)(w:World)(e:Ending)(w':World):Prop:=e= .returned (.tuple #[])/\eF w' p b (ur S ks)/\Kp p b w w'
section
variable {w:World}{p b:Nat}{S:Dk}
theorem LM (h:eF w p b S)(B:Bd S)(hnm:∀ f∈S.L,f.n.size<=maxLen){ks0:List Int}{K0}(hK:kF w kb ks0 K0)(hkb:0<ks0.length->kb<w.heap.size/\kb≠p/\kb≠b)(hkw:∀ x∈ks0,-9223372036854775808<=x/\x<=9223372036854775807):
 Calls prog 41 #[ptr p,K0] w (Aw S ks0 p b w):=by
 have hp:=h.fo.lt;have hbb:=h.own.lt;obtain⟨HF,hD,HB⟩:=gi (vj h B) h B;have hlen:=B.len;obtain⟨KA,kcap,rfl,hkl,hkc⟩:=hK;have hKI:kF w kb ks0 (Z KA ks0.length kcap):=⟨KA,kcap,D,hkl,hkc⟩;have HKI:=H hKI;clear h hkl hkc hKI;replace hkb:=H hkb;replace hkw:=H hkw;replace hnm:=H hnm
 go_enter func41,ntmps41
 go_wp2_with fail
 refine HF.mono ?_;rintro e w1 ⟨v,rfl,hN,hb1⟩;obtain⟨NA,ncap,rfl,hNA⟩:=hN;have HNA:=H hNA;clear hNA
 go_wp2_with fail
 go_loopw [1,12] (λk i wr=>∃ (j:Nat) (A:List Fl) (ks:List Int),j<=S.L.length/\sL S.L ks0 j A ks/\(∀ x∈ks,x∈ks0)/\ks.length<=ks0.length/\i= I J j/\kF wr kb ks k/\eF wr p b (Fq S A j)/\Kp p b w1 wr) (λ_ i _=>S.L.length - (intOf i).toNat)
 case atStart=>
  refine⟨0,[],ks0,aD _,sL.start HB.oB,λ_ h=>h,aB _,D,HKI.keep (λh=>hb1.block kb (hkb h).1),?_,Kp.refl _ _ _⟩;rw[QW HB.out];exact hD.fp hb1
 case round=>
  obtain⟨j,A,ks,hj,hC,hks,hkl,rfl,hI,hDj,hKp⟩:=hrel;obtain⟨KA,cap,rfl,hkc,hIc⟩:=hI;obtain⟨HI,HD,HC,HS⟩:=kB hIc hDj hC hks;clear hIc hDj hC hks;obtain⟨lt,c0,-,c2,c3,-,-,c6⟩:=HD.cells;have f3:=HD.fo.frozen 3;have f2:=HD.fo.frozen 2;have f6:=HD.fo.frozen 6;by_cases hlt:j<S.L.length
  ·clear c2 c6;obtain⟨g,rfl,hg1,hg2,hgc⟩:=HNA om;obtain⟨f,hf⟩:=fe (S.L[j]);have nm:wr.cell? ⟨g,j,E⟩=G (.string f.n):=by
    rw[hf];exact(hKp.cell (by exact hg2) eC eC).trans (hgc j hlt)
   obtain⟨HL,HFN⟩:=eN (show gG (A++S.L.drop j) f.n=G f by rw[hf];exact HC.look hlt) (show f.n.size<=maxLen by rw[hf];exact hnm _ (aV _));have hfs:f.s.size+f.l.size<=mV (A++S.L.drop j):=xe (l7 HL).1;have HF2:=H hf;clear hf hgc;have hus:mV (A++S.L.drop j)<=1073741824:=by have:=HC.less;have:=HB.xd;omega
   obtain⟨ai,hU,HU⟩:=nh (mV (A++S.L.drop j));have c3':wr.cell? ⟨p,3,E⟩=G (I J (ai:Nat)):=by rw[c3,hU];rfl
   rw[<-hU] at hfs hus;clear hU c3;by_cases hl0:f.l.size=0
   ·have HR:=H (HC.skip hlt (by rw[<-HF2.out];exact hl0))
    go_wp2_with (at_lookup;refine lC _ D _ _ D b (A++S.L.drop j) f.n D HD.own D HFN ?_;rw[HL.out];unfold yX px FH;simp only[])
    go_roundw
    case rel=>
     refine⟨j+1,A++[S.L[j]],ks,om,HR,HS,hkl,eB,?_,?_,hKp.trans (Kp.alloc _ _)⟩
     ·exact kF.keep (w:=wr) ⟨KA,cap,D,hkc,HI⟩ (λh=>Below.heap_alloc _ _ _ (by have:=(hkb om).1;have:=hb1.size;have:=hKp.size;omega))
     ·have e:Fq S (A++[S.L[j]]) (j+1)=Fq S A j:=by
       unfold Fq;rw[aR hlt];simp
      rw[e];exact HD.alloc _
    case measure=>simp[intOf];omega
   ·have hne:((f.s.size:Int)+(f.l.size:Int)==(f.s.size:Int))=z:=by rw[aX];omega
    cases ks with
    | nil=>
     go_wp2_with (at_lookup;refine lC _ D _ _ D b (A++S.L.drop j) f.n D HD.own D HFN ?_;rw[HL.out];unfold yX px FH;simp only[])
     obtain⟨W,hW⟩:=fe (wr.alloc (.cells #[.string (f.s++f.l),I J (f.s.size:Nat)] 142));have DW:eF W p b (Fq S A j):=by rw[hW];exact HD.alloc _
     have KW:Kp p b wr W:=by rw[hW];exact Kp.alloc _ _
     have q0:W.cell? ⟨wr.heap.size,0,E⟩=G (.string (f.s++f.l)):=by rw[hW];simp
     have q1:W.cell? ⟨wr.heap.size,1,E⟩=G (I J (f.s.size:Nat)):=by rw[hW];simp
     have hWs:wr.heap.size<W.heap.size:=eU q0;obtain⟨ltW,d0,-,-,d3,-⟩:=DW.cells;have e3:=DW.fo.frozen 3;have d3':W.cell? ⟨p,3,E⟩=G (I J (ai:Nat)):=by rw[d3,HU.out];rfl
     rw[<-hW];obtain⟨HDW,HKW⟩:=eN DW KW;clear hW d3 nm lt;have hn:=HC.next hlt (by rw[<-HF2.out];exact hl0);simp only[List.headD_nil,List.tail_nil] at hn;rw[<-HF2.out] at hn;obtain⟨hn1,hn2,hn3⟩:=hn;have HLN:=H (show(A++S.L.drop j).length<maxLen by rw[HC.out.YR hj];exact ml hlen);have HDS:=H (HDW.Np ((ai:Int) - ((f.s.size:Nat)+(f.l.size:Nat) - (f.s.size:Nat)))).drew;have HE:=H (show({Fq S A j with used:=(ai:Int) - ((f.s.size:Nat)+(f.l.size:Nat) - (f.s.size:Nat)),L:=ja (A++S.L.drop j) (vS f 0)}:Dk)=Fq S (A++[vS f 0]) (j+1) by
      unfold Fq;rw[hn2];have hc0:Fm f.l.size 0=0:=by unfold Fm;simp
      rw[hc0,<-HU.out] at hn3;have hu:(ai:Int) - ((f.s.size:Nat)+(f.l.size:Nat) - (f.s.size:Nat))=(mV (A++[vS f 0]++S.L.drop (j+1)):Nat):=om;rw[hu])
     have HN:=H hn1;clear hn2
     go_still_tail 15,kr
     go_wp2_with (at_mapUpdate;refine lB _ D _ _ _ D b (A++S.L.drop j) f.n (vS f 0) D HDS.own HLN D P6 D HFN ?_;intro w5 ho ht)
     have KS:Kp p b wr w5:=HKW.trans (((Kp.drew _).trans (Kp.tP _ _ _)).trans (Kp.jH ht));have DS:=eF.jH HDS ho ht;go_roundw
     case rel=>
      refine⟨j+1,A++[vS f 0],[],om,HN,λx h=>absurd h sm,aD _,eB,kF.none_ _ _ _ _,?_,hKp.trans KS⟩;have e:=HE.out;rw[<-e];exact DS
     case measure=>simp[intOf];omega
    | cons x ks=>
     obtain⟨ko,rfl,hx⟩:=HI sm;have hx0:=hx 0 sm;simp only[cU,dA] at hx0;obtain⟨m,hm,HMM⟩:=nh (Fm f.l.size x);have hkx:=hkw x (HS x sm);have hk0:=hkx.1;have hk1:=hkx.2;obtain⟨y,hy⟩:∃ y:Nat,max x 0=(y:Int):=⟨x.toNat,om⟩;have hmin:min (y:Int) ((f.s.size:Int)+(f.l.size:Int) - (f.s.size:Int))=(m:Int):=by rw[hm];unfold Fm;omega
     have hml:m<=f.l.size:=by rw[hm];unfold Fm;omega
     have HX:=H hx;have hkb0:=hkb (by simp at hkl;omega);have hc1:ks.length+1<=cap:=by simpa using hkc
     have hi1:(1:Int)<=(ks.length:Int)+1:=om;have hi2:(ks.length:Int)+1<=(cap:Int):=om;have hi3:(1:Int)<=(cap:Int):=om;have hin0:(0:Int)<(ks.length:Int)+1:=om;have HC1:=H (show(x::ks).length<=cap from hkc);clear hx hm hkx hkc;by_cases hcap:cap=1;have tg0:Tg 0:=⟨⟩;rotate_left;have tg0:Tg 1:=⟨⟩;rotate_left;obtain rfl:=hcap;rotate_left;have hcap2:1<cap:=om;rotate_left
     all_goals
      go_wp2_with (at_lookup;refine lC _ D _ _ D b (A++S.L.drop j) f.n D HD.own D HFN ?_;rw[HL.out];unfold yX px FH;simp only[])
      obtain⟨W,hW⟩:=fe (wr.alloc (.cells #[.string (f.s++f.l),I J (f.s.size:Nat)] 142));have DW:eF W p b (Fq S A j):=by rw[hW];exact HD.alloc _
      have KW:Kp p b wr W:=by rw[hW];exact Kp.alloc _ _
      have q0:W.cell? ⟨wr.heap.size,0,E⟩=G (.string (f.s++f.l)):=by rw[hW];simp
      have q1:W.cell? ⟨wr.heap.size,1,E⟩=G (I J (f.s.size:Nat)):=by rw[hW];simp
      have hWs:wr.heap.size<W.heap.size:=eU q0;obtain⟨ltW,d0,-,-,d3,-⟩:=DW.cells;have e3:=DW.fo.frozen 3;have d3':W.cell? ⟨p,3,E⟩=G (I J (ai:Nat)):=by rw[d3,HU.out];rfl
      have x0:W.cell? ⟨kb,ko,E⟩=G (I J x):=(KW.cell (by exact eU hx0) (by exact hkb0.2.1) (by exact hkb0.2.2)).trans hx0;rw[<-hW];obtain⟨HDW,HKW⟩:=eN DW KW;clear hW d3 nm lt
      go_quiet (fail)
      go_wp2_with fail
      obtain⟨V,hV⟩:=fe (W.drewN nq);have DV:eF V p b (Fq S A j):=by rw[hV];exact HDW.drewN nq
      have KV:Kp p b wr V:=by rw[hV];exact HKW.trans (Kp.drewN _ _)
      have v0:V.cell? ⟨wr.heap.size,0,E⟩=G (.string (f.s++f.l)):=by rw[hV];exact q0
      have v1:V.cell? ⟨wr.heap.size,1,E⟩=G (I J (f.s.size:Nat)):=by rw[hV];exact q1
      have v3:V.cell? ⟨p,3,E⟩=G (I J (ai:Nat)):=by rw[hV];exact d3'
      have g3:=DV.fo.frozen 3;have u0:V.cell? ⟨p,0,E⟩=G (.map (G b)):=by rw[hV];exact d0
      have hVs:wr.heap.size<V.heap.size:=eU v0;have ltV:p<V.heap.size:=eU u0;rw[<-hV];obtain⟨HDV,HKV⟩:=eN DV KV;clear hV hWs ltW;have hn:=HC.next hlt (by rw[<-HF2.out];exact hl0);simp only[List.headD_cons,List.tail_cons] at hn;rw[<-HF2.out] at hn;obtain⟨hn1,hn2,hn3⟩:=hn;have HLN:=H (show(A++S.L.drop j).length<maxLen by rw[HC.out.YR hj];exact ml hlen);have HDS:=H (HDV.Np ((ai:Int) - ((f.s.size:Nat)+(f.l.size:Nat) - (f.s.size:Nat) - (m:Nat)))).drew;have HE:=H (show({Fq S A j with used:=(ai:Int) - ((f.s.size:Nat)+(f.l.size:Nat) - (f.s.size:Nat) - (m:Nat)),L:=ja (A++S.L.drop j) (vS f x)}:Dk)=Fq S (A++[vS f x]) (j+1) by
       unfold Fq;rw[hn2];rw[<-HMM.out,<-HU.out] at hn3;have hu:(ai:Int) - ((f.s.size:Nat)+(f.l.size:Nat) - (f.s.size:Nat) - (m:Nat))=(mV (A++[vS f x]++S.L.drop (j+1)):Nat):=om;rw[hu])
      have HN:=H hn1;clear hn2
      go_still_tail 15,kr
      go_wp2_with (at_mapUpdate;refine lB _ D _ _ _ D b (A++S.L.drop j) f.n (vS f x) D HDS.own HLN D (Jh HMM) D HFN ?_;intro w5 ho ht)
      have KS:Kp p b wr w5:=HKV.trans (((Kp.drew _).trans (Kp.tP _ _ _)).trans (Kp.jH ht));have DS:=eF.jH HDS ho ht;go_roundw
      case rel=>
       refine⟨j+1,A++[vS f x],ks,om,HN,λy hy=>HS y fN,by simp at hkl;omega,eB,?_,?_,hKp.trans KS⟩
       ·first
         | have _:Tg 1:=tg0
           exact kF.keep (w:=wr) (kF.tail HC1 HX _ (λ_=>rfl)) (λ_=>KS.block kb (by have:=hkb0.1;have:=hb1.size;have:=hKp.size;omega) hkb0.2.1 hkb0.2.2)
         | obtain rfl:ks=[]:=cP om
           exact kF.none_ _ _ _ _
       ·have e:=HE.out;rw[<-e];exact DS
      case measure=>simp[intOf];omega
  ·have hje:j=S.L.length:=om;have HDn:=H (HC.done hje)
   go_wp2
   go_end0;refine⟨D,?_,((Kp.jR hb1).trans hKp).trans ((Kp.tP _ _ _).trans (Kp.tP _ _ _))⟩;have e:({Fq S A j with down:=z,jL:=-1}:Dk)=ur S ks0:=by
    unfold Fq ur;rw[HDn.out]
   rw[<-e];exact(HD.kS _).Wb _
end
abbrev sA:ay:=⟨#[97]⟩
abbrev sB:ay:=⟨#[98]⟩
abbrev ZY:ay:=⟨#[97,98]⟩
abbrev ZX:ay:=⟨#[99,100]⟩
abbrev Yq:ay:=⟨#[48,49,50,51,52,53,54,55,56,57,48,49,50,51,52,53,54,55,56]⟩
def A0:Dk:=kJ 20
def A1:Dk:=(jY A0 sA).1
def A2:Dk:=(lg A1 sA ZY).1
def A3:Dk:=(mg A2 sA).1
def A4:Dk:=(lg A3 sA ZX).1
def A5:Dk:={A4 with jL:=0}
def A6:Dk:={A5 with down:=Q}
def A7:Dk:=ur A6 [1]
def A8:Dk:={A7 with reads:=1}
def A9:Dk:=(Ag A8 sA sB).1
theorem a1:jY A0 sA=(A1,0):=kr
theorem a2:lg A1 sA ZY=(A2,0):=kr
theorem a3:mg A2 sA=(A3,0):=kr
theorem a4:lg A3 sA ZX=(A4,0):=kr
theorem a5:lg A4 sA Yq=(A4,52):=kr
theorem a6:mg A5 sA=(A6,50):=kr
theorem a7:Bf A6 sA 0=(lE,50):=kr
theorem a8:Bf A7 sA 1=(⟨#[98,99]⟩,0):=kr
theorem a9:Ag A8 sA sB=(A9,0):=kr
theorem sG:zc A9 sA=(A9,51):=kr
theorem uB:(zc A9 sB).2=0:=kr
theorem a12:gG A8.L sA=G ⟨sA,⟨#[97,98,99]⟩,lE⟩:=kr
theorem sQ:gG A6.L sA=G ⟨sA,ZY,ZX⟩:=kr
theorem sP:A8.L.length=1:=kr
section
variable {w:World}{p b:Nat}{S:Dk}
end
end Ds
namespace Ds
open Go.ChangeShapes Go.WideShapes Go.ChangeAt Go.RowKit Go.Maps DkM
structure Zz where
 k:Int
 a:ay
 b:ay
 n:Int
def vv (w:World)(b off:Nat)(o:Zz):Prop:=
 w.cell? ⟨b,off,E⟩=G (I J o.k)/\w.cell? ⟨b,off+1,E⟩=G (.string o.a)/\w.cell? ⟨b,off+2,E⟩=G (.string o.b)/\w.cell? ⟨b,off+3,E⟩=G (I J o.n)
def JB (w:World)(v:Value)(l:List Zz):Prop:=
 ∃ A cap,v= Z A l.length cap/\l.length<=cap/\(0<l.length->∃ b off,A=G ⟨b,off,E⟩/\b<w.heap.size/\∀ j (h:j<l.length),vv w b (off+j*4) l[j])
theorem vv.below{o}(h:vv w b off o)(hb:Below w.heap.size w w')(hl:b<w.heap.size):vv w' b off o:=
 ⟨(hb.cell (by exact hl)).trans h.1,(hb.cell (by exact hl)).trans h.2.1,(hb.cell (by exact hl)).trans h.2.2.1,(hb.cell (by exact hl)).trans h.2.2.2⟩
theorem JB.below{v}{l}(h:JB w v l)(hb:Below w.heap.size w w'):JB w' v l:=by
 obtain⟨A,cap,h1,h2,h3⟩:=h;refine⟨A,cap,h1,h2,λhl=>?_⟩;obtain⟨b,off,e,hlt,hc⟩:=h3 hl;exact⟨b,off,e,bK hlt hb.size,λj hj=>(hc j hj).below hb hlt⟩
theorem ZF {α:Type}[Inhabited α](n:Nat)(P:Nat->α->Prop)(h:∀ i,i<n->∃ x,P i x):∃ l:List α,l.length=n/\∀ i (hi:i<l.length),P i l[i]:=by
 classical
 refine⟨(List.range n).map λi=>if h':i<n then Classical.choose (h i h') else default,sm,λi hi=>?_⟩;have hn:i<n:=by simpa using hi
 simp only[List.getElem_map,List.getElem_range,hn,dif_pos];exact Classical.choose_spec (h i hn)
theorem add_plain (b off n:Nat):(⟨b,off,E⟩:Addr).add n=⟨b,off+n,E⟩:=by unfold Addr.add;split<;>simp_all
instance:Inhabited Zz:=⟨⟨0,lE,lE,0⟩⟩
end Ds
namespace Ds
open Go.RowKit Go.Maps DkM
structure Iv (N:Nat)(S:Dk):Prop where
 Vg: -1<=S.jL
 Vf:S.jL<=9223372036854775807
 YE:0<=S.ops
 YD:S.ops<=N
 th:0<=S.reads
 xK:S.reads<=N
 len:S.L.length<=N
 used:S.used=(mV S.L:Nat)
 room:(mV S.L:Int)<=S.ld
 YQ:0<=S.ld
 YP:S.ld<=1073741824
 oB:jP S.L
 right:∀ f∈S.L,Av f.n=Q
theorem Iv.bd{S}(h:Iv N S)(hN:N<=1048576):Bd S:=by
 obtain⟨h1,h2,h3,h4,h5,h6,h7,h8,h9,h10,h11,h12,_⟩:=h;exact⟨h1,h2,h3,om,h5,om,om,h8,om,h10,h11,h12⟩
theorem NG {n}(h:Av n=Q):1<=n.size/\n.size<=20:=by
 unfold Av at h;simp only[aM,aN] at h;exact h.1
theorem Iv.names{S}(h:Iv N S):∀ f∈S.L,f.n.size<=maxLen:=λf hf=>by have:=NG (h.right f hf);unfold maxLen;omega
theorem Iv.mono {M:Nat}{S}(h:Iv N S)(hM:N<=M):Iv M S:=by
 obtain⟨h1,h2,h3,h4,h5,h6,h7,h8,h9,h10,h11,h12,h13⟩:=h;exact⟨h1,h2,h3,om,h5,om,om,h8,h9,h10,h11,h12,h13⟩
theorem Iv.new (ld:Int):Iv 0 (kJ ld):=by
 unfold kJ;exact⟨sm,sm,sm,sm,sm,sm,sm,D,by show(0:Int)<=_;simp only;omega,eJ,eJ,List.Pairwise.nil,sm⟩
theorem Iv.down{S}(h:Iv N S):Iv N {S with down:=Q}:=by
 obtain⟨h1,h2,h3,h4,h5,h6,h7,h8,h9,h10,h11,h12,h13⟩:=h;exact⟨h1,h2,h3,h4,h5,h6,h7,h8,h9,h10,h11,h12,h13⟩
theorem Iv.tick{S}(h:Iv N S):Iv (N+1) (tick S):=by
 obtain⟨h1,h2,h3,h4,h5,h6,h7,h8,h9,h10,h11,h12,h13⟩:=h;unfold Go.Proofs.YtkpdknkidnfgiaaGreatDoor.Ds.tick;exact⟨eJ,eJ,eJ,eJ,h5,eJ,eJ,h8,h9,h10,h11,h12,h13⟩
theorem Iv.files{S}(h:Iv N S){L}{u:Int}(hu:u=(mV L:Nat))(hr:(mV L:Int)<=S.ld)(hL:L.length<=N+1)(hR:jP L)(hn:∀ f∈L,Av f.n=Q):Iv (N+1) {Go.Proofs.YtkpdknkidnfgiaaGreatDoor.Ds.tick S with L:=L,used:=u}:=by
 obtain⟨h1,h2,h3,h4,h5,h6,h7,h8,h9,h10,h11,h12,h13⟩:=h.tick;exact⟨h1,h2,h3,h4,h5,h6,hL,hu,hr,h10,h11,hR,hn⟩
theorem Iv.zK{S S'}{e:Nat}(h:Iv N S)(h':e=0->Iv (N+1) S'):Iv (N+1) (zK S e S').1:=by
 unfold Go.Proofs.YtkpdknkidnfgiaaGreatDoor.Ds.zK
 split
 ·exact h.mono om
 ·split
  ·exact h.mono om
  ·split
   ·exact h.down.mono om
   ·rename_i he _;exact h' (by simpa using he)
theorem JH {L}{n}(h:uI L n=0):Av n=Q/\gG L n=E:=by
 unfold uI at h
 split at h
 ·rename_i hh;exact⟨hh.1,by cases hl:gG L n with | none=>rfl | some f=>rw[hl] at hh;simp at hh⟩
 ·cases h
theorem Iv.jY{S}(h:Iv N S)(n):Iv (N+1) (jY S n).1:=by
 unfold Go.Proofs.YtkpdknkidnfgiaaGreatDoor.Ds.jY;refine h.zK λhe=>?_;obtain⟨hr,hl⟩:=JH he;have hu:=vY h.oB ⟨n,lE,lE⟩;simp only[hl,Ri] at hu;have au:lE.size=0:=rfl;rw[au] at hu;have e:({Go.Proofs.YtkpdknkidnfgiaaGreatDoor.Ds.tick S with L:=ja S.L ⟨n,lE,lE⟩}:Dk)= {Go.Proofs.YtkpdknkidnfgiaaGreatDoor.Ds.tick S with L:=ja S.L ⟨n,lE,lE⟩,used:=S.used}:=rfl;rw[e];have h8:=h.used;have h9:=h.room;exact h.files om om (by have:=wE S.L ⟨n,lE,lE⟩;have:=h.len;omega) (h.oB.put _) (λf hf=>by
  rcases oL.1 hf with rfl | ⟨h1,_⟩
  ·exact hr
  ·exact h.right f h1)
theorem JI {S}{n t}(h:xa S n t=0):(∃ f,gG S.L n=G f)/\(t.size:Int)<=S.ld - S.used:=by
 unfold xa at h
 split at h
 ·cases h
 ·rename_i h1
  split at h
  ·cases h
  ·rename_i h2;refine⟨Option.isSome_iff_exists.1 (by cases hq:(gG S.L n).isSome with | true=>rfl | false=>exact absurd hq h1),om⟩
theorem Iv.lg{S}(h:Iv N S)(n t):Iv (N+1) (lg S n t).1:=by
 unfold Go.Proofs.YtkpdknkidnfgiaaGreatDoor.Ds.lg;refine h.zK λhe=>?_;obtain⟨⟨f,hl⟩,hr⟩:=JI he;unfold Fe;rw[hl];simp only[bU];have hu:=vY h.oB ⟨n,f.s,f.l++t⟩;simp only[hl,mc,Ri] at hu;have h8:=h.used;have h9:=h.room;exact h.files om om (by have:=wE S.L ⟨n,f.s,f.l++t⟩;have:=h.len;omega) (h.oB.put _) (λg hg=>by
  rcases oL.1 hg with rfl | ⟨h1,_⟩
  ·obtain⟨hf,he⟩:=l7 hl;have:=h.right f hf;rw[he] at this;exact this
  ·exact h.right g h1)
theorem Iv.mg{S}(h:Iv N S)(n):Iv (N+1) (mg S n).1:=by
 unfold Go.Proofs.YtkpdknkidnfgiaaGreatDoor.Ds.mg;refine h.zK λhe=>?_;obtain⟨f,hl⟩:=tI he;unfold LJ B9;rw[hl];simp only[bU];have hu:=vY h.oB ⟨n,f.s++f.l,lE⟩;simp only[hl,mc,Ri] at hu;have au:lE.size=0:=rfl;rw[au] at hu;have e:({Go.Proofs.YtkpdknkidnfgiaaGreatDoor.Ds.tick S with L:=ja S.L ⟨n,f.s++f.l,lE⟩}:Dk)= {Go.Proofs.YtkpdknkidnfgiaaGreatDoor.Ds.tick S with L:=ja S.L ⟨n,f.s++f.l,lE⟩,used:=S.used}:=rfl;rw[e];have h8:=h.used;have h9:=h.room;exact h.files om om (by have:=wE S.L ⟨n,f.s++f.l,lE⟩;have:=h.len;omega) (h.oB.put _) (λg hg=>by
  rcases oL.1 hg with rfl | ⟨h1,_⟩
  ·obtain⟨hf,he⟩:=l7 hl;have:=h.right f hf;rw[he] at this;exact this
  ·exact h.right g h1)
theorem ER {L}{n}:(px (gG L n)).size=Ri (gG L n):=by
 cases gG L n with
 | none=>rfl
 | some f=>show(f.s++f.l).size=_;rw[mc];rfl
theorem Iv.zc{S}(h:Iv N S)(n):Iv (N+1) (zc S n).1:=by
 unfold Go.Proofs.YtkpdknkidnfgiaaGreatDoor.Ds.zc;refine h.zK λhe=>?_;unfold Xp;have hu:=FY h.oB n;have hf:=ER (L:=S.L) (n:=n);rw[<-hf] at hu;have h8:=h.used;have h9:=h.room;exact h.files om om (by have:=GO S.L n;have:=h.len;omega) (h.oB.wo _) (λg hg=>h.right g (Bo.1 hg).1)
theorem JG {S}{c}(h:FP S a c=0):Av c=Q/\∃ f,gG S.L a=G f:=by
 unfold FP at h
 split at h
 ·rename_i h1;exact⟨h1,tI h⟩
 ·cases h
theorem Rr {L}(h:jP L){c:ay}(hne:a≠c){f}(hl:gG L a=G f):mV (wo (ja L ⟨c,f.s,f.l⟩) a)+(px (gG L c)).size=mV L:=by
 have hu:=vY h ⟨c,f.s,f.l⟩;have hw:=FY (h.put ⟨c,f.s,f.l⟩) a;rw[jW h _ (by exact hne),hl] at hw;rw[ER];simp only[Ri] at hu hw;simp only[Ri];omega
theorem Iv.Ag{S}(h:Iv N S)(a c):Iv (N+1) (Ag S a c).1:=by
 unfold Go.Proofs.YtkpdknkidnfgiaaGreatDoor.Ds.Ag;refine h.zK λhe=>?_;obtain⟨hr,f,hl⟩:=JG he;unfold Qs B9
 split
 ·exact h.tick
 ·rename_i hq;rw[hl];simp only[bU];have hu:=Rr h.oB (c:=c) (λe=>hq (pR.2 e)) hl;have h8:=h.used;have h9:=h.room;exact h.files om om (by have:=GO (ja S.L ⟨c,f.s,f.l⟩) a;have:=wE S.L ⟨c,f.s,f.l⟩;have:=h.len;omega) ((h.oB.put _).wo _) (λg hg=>by
   rcases oL.1 (Bo.1 hg).1 with rfl | ⟨h1,_⟩
   ·exact hr
   ·exact h.right g h1)
theorem Ai (L)(ks:List Int):(Aj L ks).map (·.n)=L.map (·.n):=by
 induction L generalizing ks with
 | nil=>rfl
 | cons f r ih=>
  unfold Aj
  split
  ·simp[ih]
  ·simp only[bC,ih];rfl
theorem Qy {L}(h:jP L)(ks:List Int):jP (Aj L ks):=by
 have e:∀ M:List Fl,jP M↔(M.map (·.n)).Pairwise (λa b=>bf a b=Q):=λM=>by unfold jP;rw[de]
 rw[e,Ai,<-e];exact h
theorem Uk (L)(ks:List Int):mV (Aj L ks)<=mV L:=by
 induction L generalizing ks with
 | nil=>exact aB _
 | cons f r ih=>
  unfold Aj
  split
  ·have:=ih ks;simp only[mV];omega
  ·have:=ih ks.tail;have hz:=Fi f (ks.headD 0);have hm:Fm f.l.size (ks.headD 0)<=f.l.size:=by unfold Fm;omega
   simp only[mV];omega
theorem LP {L:List Fl}(h:∀ f∈L,Av f.n=Q)(ks:List Int):∀ f∈Aj L ks,Av f.n=Q:=by
 intro f hf;have:f.n∈(Aj L ks).map (·.n):=bI.2 ⟨f,hf,D⟩;rw[Ai] at this;obtain⟨g,hg,he⟩:=bI.1 this;rw[<-he];exact h g hg
theorem Iv.Y6{S}(h:Iv N S)(ks:List Int):Iv N (ur S ks):=by
 obtain⟨h1,h2,h3,h4,h5,h6,h7,h8,h9,h10,h11,h12,h13⟩:=h;unfold ur;exact⟨sm,sm,h3,h4,h5,h6,by rw[Ul];exact h7,D,by have:=Uk S.L ks;simp only;omega,h10,h11,Qy h12 ks,LP h13 ks⟩
theorem Iv.read{S}(h:Iv N S)(n)(a:Int):Iv (N+1) (He S n a):=by
 unfold He
 split
 ·obtain⟨h1,h2,h3,h4,h5,h6,h7,h8,h9,h10,h11,h12,h13⟩:=h;exact⟨h1,h2,h3,eJ,eJ,eJ,eJ,h8,h9,h10,h11,h12,h13⟩
 ·exact h.mono om
theorem Iv.jL{S}(h:Iv N S)(n:Int)(hn:n<=9223372036854775807):Iv N {S with jL:=max n (-1)}:=by
 obtain⟨h1,h2,h3,h4,h5,h6,h7,h8,h9,h10,h11,h12,h13⟩:=h;exact⟨eJ,eJ,h3,h4,h5,h6,h7,h8,h9,h10,h11,h12,h13⟩
section
variable {w:World}{p b:Nat}{S:Dk}
end
section
variable {w:World}{p b:Nat}{S:Dk}
end
theorem WK (ld:Int)(w:World):
 Calls prog 31 #[I J ld] w λe w'=>∃ p b:Nat,e= .returned (ptr p)/\w.heap.size<=p/\w.heap.size<=b/\eF w' p b (kJ ld)/\Below w.heap.size w w':=
 (Tn ld w).mono λe w' ⟨h1,h2,h3⟩=>⟨w.heap.size+1,w.heap.size,h1,om,aB _,h2,h3⟩
theorem JB.at_{A:Option Addr}{l:List Zz}(h:0<l.length->∃ b off,A=G ⟨b,off,E⟩/\b<w.heap.size/\∀ j (h:j<l.length),vv w b (off+j*4) l[j])(hb:Below w.heap.size w wr)(hk:k<l.length):
 ∃ b off,A=G ⟨b,off,E⟩/\b<w.heap.size/\∀ o,o=l[k]->vv wr b (off+k*4) o:=by
 obtain⟨b,off,e,hlt,hc⟩:=h om;exact⟨b,off,e,hlt,λo ho=>by subst ho;exact(hc k hk).below hb hlt⟩
def lA (w:World)(lo:Nat)(v:Value)(L:List Fl):Prop:=
 ∃ A cap,v= Z A L.length cap/\L.length<=cap/\(0<L.length->∃ g off,A=G ⟨g,off,E⟩/\lo<=g/\g<w.heap.size/\∀ k (h:k<L.length),w.cell? ⟨g,off+k*3,E⟩=G (.string L[k].n)/\w.cell? ⟨g,off+k*3+1,E⟩=G (.string L[k].s)/\w.cell? ⟨g,off+k*3+2,E⟩=G (.string L[k].l))
theorem lA.nil (w)(lo:Nat)(A)(cap:Nat):lA w lo (Z A 0 cap) []:=⟨A,cap,D,aD _,λh=>absurd h sm⟩
theorem lA.keep{lo:Nat}{v}{L}(h:lA w lo v L)(hs:w.heap.size<=w'.heap.size)(hk:∀ g,lo<=g->g<w.heap.size->w'.heap[g]?=w.heap[g]?):lA w' lo v L:=by
 obtain⟨A,cap,h1,h2,h3⟩:=h;refine⟨A,cap,h1,h2,λhl=>?_⟩;obtain⟨g,off,e,hlo,hg,hc⟩:=h3 hl;have hb:=hk g hlo hg;refine⟨g,off,e,hlo,om,λk hk'=>?_⟩;obtain⟨q0,q1,q2⟩:=hc k hk';exact⟨(ab2 (w:=w) hb).trans q0,(ab2 (w:=w) hb).trans q1,(ab2 (w:=w) hb).trans q2⟩
theorem lA.below{lo:Nat}{v}{L}(h:lA w lo v L)(hb:Below w.heap.size w w'):lA w' lo v L:=h.keep hb.size (λg _ hg=>hb.block g hg)
theorem lA.alloc{lo:Nat}{v}{L}(h:lA w lo v L)(o):lA (w.alloc o) lo v L:=h.below ((aa4 _ _).alloc (aB _) _)
theorem lA.kp{lo p:Nat}{v}{L}(h:lA w lo v L)(hk:Kp p b w w')(hp:p<lo)(hb:b<lo):lA w' lo v L:=h.keep hk.size (λg h1 hg=>hk.block g hg om om)
theorem lA.mono{lo lo':Nat}{v}{L}(h:lA w lo v L)(hl:lo'<=lo):lA w lo' v L:=by
 obtain⟨A,cap,h1,h2,h3⟩:=h;refine⟨A,cap,h1,h2,λh0=>?_⟩;obtain⟨g,off,e,hlo,r⟩:=h3 h0;exact⟨g,off,e,om,r⟩
structure Fy (f:Fl)(M:List Fl)(k:Nat)(d:Bool)(X:List Fl):Prop where
 eq:pd f M=X++(if d=Q then M.drop k else pd f (M.drop k))
 len:X.length<=k+1
theorem Fy.not {f}{M X}(h:Fy f M k z X)(hk:k<M.length)(hb:bf f.n M[k].n=z):Fy f M (k+1) z (X++[M[k]]):=by
 obtain⟨h1,h2⟩:=h;refine⟨?_,eC⟩;rw[h1,az dc,az dc,aR hk];have e:pd f (M[k]::M.drop (k+1))=if bf f.n M[k].n then f::M[k]::M.drop (k+1) else M[k]::pd f (M.drop (k+1)):=rfl;rw[e,az (by rw[hb];decide)];simp
theorem Fy.done {f}{M X}{d:Bool}(h:Fy f M M.length d X):pd f M=X++(if d=Q then [] else [f]):=by
 rw[h.eq,bX];rfl
def Cu (w:World)(aq:Nat)(sl:Value)(S:Dk):Prop:=
 w.cell? ⟨aq,0,E⟩=G sl/\w.cell? ⟨aq,1,E⟩=G (I J S.ld)/\w.cell? ⟨aq,2,E⟩=G (I J S.jL)/\w.cell? ⟨aq,3,E⟩=G (I J S.ops)/\w.cell? ⟨aq,4,E⟩=G (I J S.reads)/\w.cell? ⟨aq,5,E⟩=G (.bool S.down)
def Cs (w:World)(O:Nat)(o:Zz):Prop:=
 w.cell? ⟨O,0,E⟩=G (I J o.k)/\w.cell? ⟨O,1,E⟩=G (.string o.a)/\w.cell? ⟨O,2,E⟩=G (.string o.b)/\w.cell? ⟨O,3,E⟩=G (I J o.n)
theorem Cu.lt{sl}{S}(h:Cu w aq sl S):aq<w.heap.size:=eU h.1
theorem Cs.lt{O:Nat}{o}(h:Cs w O o):O<w.heap.size:=eU h.1
theorem Cu.keep{sl}{S}(h:Cu w aq sl S)(hb:w'.heap[aq]?=w.heap[aq]?):Cu w' aq sl S:=by
 have k:∀ i,w'.cell? ⟨aq,i,E⟩=w.cell? ⟨aq,i,E⟩:=λi=>ab2 (w:=w) hb;unfold Cu;rw[k,k,k,k,k,k];exact h
theorem Cs.keep{O:Nat}{o}(h:Cs w O o)(hb:w'.heap[O]?=w.heap[O]?):Cs w' O o:=by
 have k:∀ i,w'.cell? ⟨O,i,E⟩=w.cell? ⟨O,i,E⟩:=λi=>ab2 (w:=w) hb;unfold Cs;rw[k,k,k,k];exact h
theorem Cu.below{sl}{S}(h:Cu w aq sl S)(hb:Below w.heap.size w w'):Cu w' aq sl S:=h.keep (hb.block aq h.lt)
theorem Cs.below{O:Nat}{o}(h:Cs w O o)(hb:Below w.heap.size w w'):Cs w' O o:=h.keep (hb.block O h.lt)
structure XI (w:World)(lo:Nat)(sl:Value)(S:Dk):Prop where
 fs:lA w lo sl S.L
 len:S.L.length<=1000000
 mV:mV S.L<=1073741824
 used:S.used=(DkM.mV S.L:Nat)
 names:∀ f∈S.L,f.n.size<=9223372036854775807
theorem XI.below{lo:Nat}{sl}{S}(h:XI w lo sl S)(hb:Below w.heap.size w w'):XI w' lo sl S:=⟨h.fs.below hb,h.len,h.mV,h.used,h.names⟩
theorem fP.Xy{cs}(h:fP w g t cs)(hb:Below w.heap.size w w'):fP w' g t cs:=(hb.block g h.lt).trans h
theorem p6 {P:Program}{fn:Func}{p a:Tmp}{ty:TypeId}(h:fn.results=#[.cell p ty,.tmp a])(tmps:Array Value)(w:World)(g:Nat)(t:TypeId)(cs:Array Value)(fr:Nat×Nat)(d:TypeDesc)
 (hp:tmps.getD p undef= .pointer (G ⟨g,0,E⟩)) (hg:w.heap[g]?=G (.cells cs t fr))
 (hu:P.underlying ty=G d) (hd:(match d with | .struct _ | .array _ _=>Q | _=>z)=Q) (hi:(P.info? ty).map (·.size)=G cs.size):
 (results fn tmps).run P w= .ok (.tuple #[.agg cs,tmps.getD a undef]) w:=by
 have hp':tmps[p]?.getD undef= .pointer (G ⟨g,0,E⟩):=by simpa using hp
 simp[results,h,hp',asAddr,run_loadVar_row w g t ty cs fr d hg hu hd hi]
theorem lA.kO{lo R:Nat}{v}{L}(h:lA W lo v L)(hR:R<lo)(a b c d e f:Value):
 lA ((((((W.setCell ⟨R,0,E⟩ a).setCell ⟨R,1,E⟩ b).setCell ⟨R,2,E⟩ c).setCell ⟨R,3,E⟩ d).setCell ⟨R,4,E⟩ e).setCell ⟨R,5,E⟩ f) lo v L:=by
 have one:∀ {W:World} (i:Nat) (u:Value),lA W lo v L->lA (W.setCell ⟨R,i,E⟩ u) lo v L:=λi u h=>h.keep sm (λg hg _=>aa0 _ _ _ _ eC);exact one _ _ (one _ _ (one _ _ (one _ _ (one _ _ (one _ _ h)))))
theorem lA.one{lo R:Nat}{v}{L}(h:lA W lo v L)(hR:R<lo)(i:Nat)(u):lA (W.setCell ⟨R,i,E⟩ u) lo v L:=
 h.keep sm (λg hg _=>aa0 _ _ _ _ eC)
theorem lA.fw{lo:Nat}{L}(h:lA W lo (Z (G ⟨g,off,E⟩) n cap) L)(hN:g≠N)(i:Nat)(u):lA (W.setCell ⟨N,i,E⟩ u) lo (Z (G ⟨g,off,E⟩) n cap) L:=by
 obtain⟨A,c,h1,h2,h3⟩:=h;refine⟨A,c,h1,h2,λhl=>?_⟩;obtain⟨g',off',e,hlo,hg,hc⟩:=h3 hl;have hgg:g'=g:=by rw[e] at h1;injection h1 with h1;injection h1 with h1;injection h1 with h1;exact h1.symm
 subst hgg;have hb:=aa0 W ⟨N,i,E⟩ u g' hN;refine⟨g',off',e,hlo,by simpa using hg,λk hk=>?_⟩;obtain⟨q0,q1,q2⟩:=hc k hk;exact⟨(ab2 (w:=W) hb).trans q0,(ab2 (w:=W) hb).trans q1,(ab2 (w:=W) hb).trans q2⟩
theorem lA.yN{lo:Nat}{v}{L}(h:lA w lo v L){R:Nat}(hR:w.heap.size<=R):∀ g off n cap,v= Z (G ⟨g,off,E⟩) n cap->0<L.length->g≠R:=by
 intro g off n cap hv hl;obtain⟨A,c,h1,h2,h3⟩:=h;obtain⟨g',off',e,_,hg,_⟩:=h3 hl;rw[h1,e] at hv;injection hv with hv
 injection hv with hv
 injection hv with hv
 omega
