/- Lemmas for AfterglowSecret: what functions of the program return; no condition. -/
import Derived.Lib.ItoaLen
import Derived.OwnWalk
import Derived.Test.YtkpdknkidnfgiaaGreatDoorJR
import Derived.Test.YtkpdknkidnfgiaaGreatDoorJH
set_option maxHeartbeats 0
set_option maxRecDepth 100000
set_option linter.unusedVariables false
open Go.Value renaming int->I,string->C,slice->Z
open Go.IntKind renaming i64->J,u8->U
open Option renaming none->E,some->G
open Bool renaming true->Q,false->z
open Go.Lib renaming hid->H
open Go.Proofs.Tryz
namespace Go.Proofs.YtkpdknkidnfgiaaGreatDoor
theorem rD{p:Prop}(h:p:=by
 first
  | have _:Tg 1:=tg0
    go_wp2_with ((go_at_call 155;refine(SG _).mono ?_;rintro e w1 ⟨rfl,hb1⟩;have hO1:=(HO.alloc (.cells #[I U xk,I J xn] 133)).step hb1;have b0:w1.cell? ⟨wr.heap.size,0,E⟩=G (I U xk):=(hb1.cell sm).trans sm;have b1:w1.cell? ⟨wr.heap.size,1,E⟩=G (I J xn):=(hb1.cell sm).trans sm;have po0:w1.cell? ⟨w3.heap.size,0,E⟩=G (I U tk):=(by rw[HTK.out];exact hO1.fo.cell 0);have po1:w1.cell? ⟨w3.heap.size,1,E⟩=G (I J tn):=(by rw[HTN.out];exact hO1.fo.cell 1);have po2:w1.cell? ⟨w3.heap.size,2,E⟩=G (.bool Q):=hO1.fo.cell 2;have po3:w1.cell? ⟨w3.heap.size,3,E⟩=G (Z va (iT (L.take j) (G t)).length vc):=hO1.fo.cell 3;have po4:w1.cell? ⟨w3.heap.size,4,E⟩=G (Z ta (oA (L.take j) (G t)).length tc):=hO1.fo.cell 4;have hBX:fP w1 wr.heap.size 133 #[I U xk,I J xn]:=ma (fP.new _ _ _) hb1;have hs1:=hb1.size;have HO1:=H hO1;clear hO1))
  | go_wp2_with ((go_at_call 155;refine(SG _).mono ?_;rintro e w1 ⟨rfl,hb1⟩;have hO1:=(HO.alloc (.cells #[I U xk,I J xn] 133)).step hb1;have b0:w1.cell? ⟨wr.heap.size,0,E⟩=G (I U xk):=(hb1.cell sm).trans sm;have b1:w1.cell? ⟨wr.heap.size,1,E⟩=G (I J xn):=(hb1.cell sm).trans sm;have po0:w1.cell? ⟨w3.heap.size,0,E⟩=G (I U xk):=(by rw[HTK.out];exact hO1.fo.cell 0);have po1:w1.cell? ⟨w3.heap.size,1,E⟩=G (I J tn):=(by rw[HTN.out];exact hO1.fo.cell 1);have po2:w1.cell? ⟨w3.heap.size,2,E⟩=G (.bool Q):=hO1.fo.cell 2;have po3:w1.cell? ⟨w3.heap.size,3,E⟩=G (Z va (iT (L.take j) (G t)).length vc):=hO1.fo.cell 3;have po4:w1.cell? ⟨w3.heap.size,4,E⟩=G (Z ta (oA (L.take j) (G t)).length tc):=hO1.fo.cell 4;have hBX:fP w1 wr.heap.size 133 #[I U xk,I J xn]:=ma (fP.new _ _ _) hb1;have hs1:=hb1.size;have HO1:=H hO1;clear hO1))
 refine ab8 ?_;refine ab3 (S:=λw'=>fP w' wr.heap.size 133 #[I U xk,I J xn]) kr hBX (λhS=>?_);obtain⟨wd,hwd⟩:=fe w1.drew;have HD:=H (show Out w3 wd (G t) (L.take j) _ _ by rw[hwd];exact HO1.drew);rw[<-hwd] at hS ⊢;clear hwd;refine tH 0 hS ?_;refine aa5 (i:=2) (v:=?_) D kr kr kr (λ_ _ _ h=>h) (aG ⟨by rfl,?_⟩) hS ?_;rotate_left
 ·intro wx hSx;have x0:wx.cell? ⟨wr.heap.size,0,E⟩=G (I U xk):=fP.cell hSx 0;have x1:wx.cell? ⟨wr.heap.size,1,E⟩=G (I J xn):=fP.cell hSx 1;go_simp
  try with_reducible rfl
 simp only[Act.put,gz,gy];refine Wj 1 3 (λK hK=>?_) λK hK=>?_
 ·skip;simp only[gz];have p4:wd.cell? ⟨w3.heap.size,4,E⟩=G (Z ta (oA (L.take j) (G t)).length tc):=HD.fo.cell 4;go_simp;refine hK _ _ hS (λhS0=>?_);refine vO 3 λK hK=>?_;simp only[gz];go_simp;refine(NM _).mono ?_;rintro e w2 ⟨rfl,hb2⟩;have HE:=H (HD.step hb2);refine hK _ _ (ma hS0 hb2) (λhS1=>?_);refine vO 4 λK hK=>?_;simp only[gz];go_simp;refine hK _ _ (fP.alloc hS1 _) (λhS2=>?_);refine vO 5 λK hK=>?_;simp only[gz];refine wp_append_own _ _ _ 48 D (w3.heap.size+1) 9 s0 ax 1 16 underlying48 hs si0 si1 si2 D dc _ _ _ D (HE.mZ.alloc _) ⟨w2.heap.size,0,E⟩ 1 1 [C (fS x)] D D (wA w2 _ _ _ D) (wy _) (by unfold maxLen;omega) om (by have:=HE.fo.lt;simp;omega) ?_;intro v' w' hown' hgrow _;obtain⟨ta',tc',rfl⟩:=im hown';have hO2:=HE.ZC HF hown' hgrow;have q4:w'.cell? ⟨w3.heap.size,4,E⟩=G (Z ta (oA (L.take j) (G t)).length tc):=hO2.1.cell 4;have g4:=hO2.1.frozen 4;have HO2:=H hO2;refine hK _ _ (fP.grown hS2 hgrow (vr hS2 (HE.mZ.alloc _) dc)) (λhS3=>?_);clear hO2 hown' hgrow;refine tH 6 hS3 ?_;refine vO 7 λK hK=>?_;simp only[gz,Act.put];go_simp;refine hK _ _ (fP.fw hS3 (by simp;omega) _) (λhS4=>?_);refine Vj ?_
  go_wp2
  go_roundw
  case rel=>exact⟨j+1,_,_,om,by go_num,by rw[HT.out];exact HO2.out.2⟩
  case measure=>simp[intOf];omega
 ·skip;simp only[gz];go_simp;refine(NM _).mono ?_;rintro e w2 ⟨rfl,hb2⟩;have HE:=H (HD.step hb2);refine hK _ _ (ma hS hb2) (λhS0=>?_);refine Wj 1 4 (λK hK=>?_) λK hK=>?_
  all_goals
   skip;simp only[gz]
  have p4:w2.cell? ⟨w3.heap.size,4,E⟩=G (Z ta (oA (L.take j) (G t)).length tc):=HE.fo.cell 4;rotate_left;rotate_left
  all_goals
   go_simp
  refine hK _ _ hS0 (λhS2b=>?_);rotate_left
  focus
   refine hK _ _ (fP.alloc hS0 _) (λhS1=>?_);refine vO 1 λK hK=>?_;simp only[gz];have p4:(w2.alloc (.cells #[C (fS x)] 9)).cell? ⟨w3.heap.size,4,E⟩=G (Z ta (oA (L.take j) (G t)).length tc):=(HE.alloc _).fo.cell 4;go_simp;refine hK _ _ hS1 (λhS3b=>?_)
  rotate_left
  all_goals
   clear hK p4
  focus
   refine vO 4 λK hK=>?_;simp only[gz];go_simp;refine hK _ _ (fP.alloc hS2b _) (λhS1=>?_)
  rotate_left;rotate_left
  all_goals
   refine vO 5 λK hK=>?_;simp only[gz];refine wp_append_own _ _ _ 48 D (w3.heap.size+1) 9 s0 ax 1 16 underlying48 hs si0 si1 si2 D dc _ _ _ D (HE.mZ.alloc _) ⟨w2.heap.size,0,E⟩ 1 1 [C (fS x)] D D (wA w2 _ _ _ D) (wy _) (by unfold maxLen;omega) om (by have:=HE.fo.lt;simp;omega) ?_;intro v' w' hown' hgrow _;obtain⟨ta',tc',rfl⟩:=im hown';have hO2:=HE.ZC HF hown' hgrow;have q4:w'.cell? ⟨w3.heap.size,4,E⟩=G (Z ta (oA (L.take j) (G t)).length tc):=hO2.1.cell 4;have g4:=hO2.1.frozen 4;have HO2:=H hO2
  refine hK _ _ (fP.grown hS1 hgrow (vr hS1 (HE.mZ.alloc _) dc)) (λhS2=>?_);rotate_left;refine hK _ _ (fP.grown hS3b hgrow (vr hS3b (HE.mZ.alloc _) dc)) (λhS2=>?_);rotate_left
  all_goals
   clear hO2 hown' hgrow;refine tH 6 hS2 ?_;refine vO 7 λK hK=>?_;simp only[gz,Act.put];go_simp;refine hK _ _ (fP.fw hS2 (by simp;omega) _) (λhS3=>?_);refine Vj ?_
   go_wp2
   go_roundw
   case rel=>exact⟨j+1,_,_,om,by go_num,by rw[HT.out];exact HO2.out.2⟩
   case measure=>simp[intOf];omega):p:=h
theorem lQ{p:Prop}(h:p:=by
 go_roundw
 case rel=>exact⟨j+1,_,_,om,by go_num,by rw[HT.out];exact HO2.out.2⟩
 case measure=>simp[intOf];omega):p:=h
theorem rJ{p:Prop}(h:p:=by
 go_enter func98,ntmps98
 go_wp2_with fail
 rw[<-HW.out]
 go_wp2_with fail
 go_loopw [3,20] (λx i wr=>∃ k,k<=m/\i= I J (k:Nat)/\x= I J (IL 0 (L.take k))/\Below W.heap.size W wr) (λ_ i _=>m - (intOf i).toNat)
 case atStart=>exact⟨0,aD _,D,D,aa4 _ _⟩
 case round=>
  obtain⟨k,hk,rfl,rfl,hb⟩:=hrel;by_cases hlk:k<m
  ·have hlk':k<L.length:=by rw[<-HM.out];exact hlk
   obtain⟨g,off,rfl,hg,hcl⟩:=HC (by intro h;rw[h] at hlk';simp at hlk');have hm:=Ed L k hlk';have hb0:=zM HOK k;have hx:=(jJ.1 (HOK _ (aV hlk'))).2;have c0:=((kz HBW hb).cell (by exact hg)).trans (hcl k hlk').1;have c1:=((kz HBW hb).cell (by exact hg)).trans (hcl k hlk').2;generalize L[k]=x at c0 c1 hm hx;generalize x.n=xn at c1 hm hx;generalize IL 0 (L.take k)=y at hm hb0 ⊢;have HMX:=H hm;clear hcl hm hlk';have hw:=hb.size;have hgw:g<wr.heap.size:=by have:=HBW.size;omega
   have hwr:IntKind.i64.wrap (xn+1)=xn+1:=IntWalk.i64_in _ om
   go_wp2
   go_roundw
   case rel=>exact⟨k+1,om,by go_num,by rw[HMX.out],hb.alloc om _⟩
   case measure=>simp[intOf];omega
  ·obtain rfl:m=k:=om;rw[show L.take m=L by rw[HM.out,aT]]
   go_wp2
   go_ret;exact⟨by rw[HE.out];rfl,kz HBW hb⟩):p:=h
variable {xs:List Value} {b b' c cap g k n size sz:Nat} {T T' t ty:TypeId} {v' vs vs' vt':Value} {W w w':World}
namespace Tp
open Go Go.RowKit Go.Lib
open Ds (fP)
theorem sW (F)(x:ay)(v)(w)(h:eO w v F)(hl:F.length<=100000):
 Calls prog 81 #[v,C x] w λe w'=>e= .returned (I J (lH (λy=>decide (x=y)) F))/\w=w':=by
 obtain⟨A,cap,rfl,hc⟩:=h;obtain⟨m,hm,HM⟩:=nh F.length;have HC:=H hc;obtain⟨K,hK,HK⟩:=nh (gU (λy=>decide (x=y)) F);have HI:=H (show lH (λy=>decide (x=y)) F=if K<F.length then(K:Int) else -1 by unfold lH;rw[<-hK]);rw[<-hm] at hl ⊢;generalize lH (λy=>decide (x=y)) F=ae at HI ⊢;clear hc hm hK
 go_enter func81,ntmps81
 go_wp2_with fail
 go_loop [8] (λi=>∃ k:Nat,k<=m/\i= I J k/\K=k+gU (λy=>decide (x=y)) (F.drop k)) (λi=>m - (intOf i).toNat)
 case atStart=>exact⟨0,aD _,D,by rw[HK.out];simp⟩
 case round=>
  obtain⟨k,hk,rfl,hkk⟩:=hrel;replace hkk:=H hkk;by_cases hlt:k<m
  ·have hk':k<F.length:=by rw[<-HM.out];exact hlt
   obtain⟨g,off,rfl,hg,hcap,hce⟩:=HC (by intro e;rw[e] at hk';simp at hk');have c0:=hce k hk';have hd:=H (show F.drop k=F[k]::F.drop (k+1) from aR hk');generalize F[k]=y at c0 hd;obtain⟨i1,i2⟩:=ln (k:=k) (m:=m) om;have E1:(x.toList==y.toList)=decide (x=y):=gS;clear hce;by_cases hx:x=y
   ·rw[aF hx] at E1;have FIN:=H (show(k:Int)=ae by
     have e:K=k:=by rw[hkk.out,hd.out];unfold gU;rw[aA (by simpa using hx)];rfl
     rw[HI.out,e,aA hk'])
    clear hx
    go_wp2_with fail
    go_ret;exact⟨by rw[<-FIN.out];rfl,D⟩
   ·rw[aC hx] at E1;have HX:=H (show K=k+1+gU (λy=>decide (x=y)) (F.drop (k+1)) by
     rw[hkk.out,hd.out];have e:gU (λy=>decide (x=y)) (y::F.drop (k+1))=gU (λy=>decide (x=y)) (F.drop (k+1))+1:=by
      conv=>lhs;unfold gU
      rw[az (by simpa using hx)]
     rw[e];omega)
    clear hx
    go_wp2_with fail
    go_round
    case rel=>exact⟨k+1,hlt,eB,HX⟩
    case measure=>simp[intOf];omega
  ·have i1:¬(k:Int)<m:=om;have FIN:=H (show(-1:Int)=ae by
    have h0:F.drop k=[]:=bR iF;have e:K=k:=by rw[hkk.out,h0];rfl
    have hm:=HM.out;rw[HI.out,e,az om])
   go_wp2_with fail
   go_ret;exact⟨by rw[<-FIN.out];rfl,D⟩
theorem yU (F)(x:ay)(v)(w)(h:eO w v F)(hl:F.length<=100000):
 Calls prog 72 #[v,C x] w λe w'=>e= .returned (.bool (F.any λy=>decide (x=y)))/\w=w':=by
 obtain⟨IX,HE⟩:=eN (sW F x v w h hl) (wI (λy=>decide (x=y)) F);generalize lH (λy=>decide (x=y)) F=ae at*;clear h
 go_enter func72,ntmps72
 go_wp2_with (go_at_call 81;refine QS IX ?_)
 go_ret;exact⟨aaN,D⟩
def tZ (s:eP):List ByteArray:=[eD s.a,eD s.b,eD s.n,eD s.st]
def lr (s:eP):ay:=if(tZ s).any (λy=>decide (bs []=y)) then bs [] else bs (Lib.join ((tZ s).map (·.data.toList)) [46])
theorem wO (n:Int):(eD n).size<=20:=by
 unfold eD;rw[iR];unfold sK
 split
 ·rw[Lib.decDigits_length];exact Lib.nDigits_le20 _ om
 ·simp
theorem ZP (s:ay):s.size=s.data.toList.length:=by show s.data.size=_;simp
theorem zT (s):(Lib.join ((tZ s).map (·.data.toList)) [46]).length<=1000:=by
 have h1:=wO s.a;have h2:=wO s.b;have h3:=wO s.n;have h4:=wO s.st;rw[ZP] at h1 h2 h3 h4;unfold tZ;rw[bC,Lib.join_length];simp only[Lib.lens,bC,dP,List.sum_cons,List.sum_nil,bj,b8];omega
theorem Bx (s:eP)(w)(hg:Gb w):aai 53 #[s.v] w (C (lr s)):=by
 have XV:=H (show s.v= .agg #[I J s.a,I J s.b,I J s.n,I J s.st] from rfl);rw[XV.out];obtain⟨X,V,hX,hV,BX,HB,HXw,SV⟩:=gC w #[I J s.a,I J s.b,I J s.n,I J s.st] 112;obtain⟨x0,x1,x2,x3⟩:=pw BX;have DE:=H (λ(n:Int) (W:World) (hb:Bl V W)=>mD n W (hg.below (HB.ca hb) (aB _)));have hb0:=br V
 go_enter func53,ntmps53
 go_upto_region 1 with fail
 rw[<-hV,<-hX];clear hV hX
 go_region_held3 (λw'=>Bl V w') (exact n7) (first | (go_at_call 51;refine qx (DE _ _ ms) λw3 hb3=>?_))
 rename_i a1 b1 a2 b2 a3 b3 hH;have H3:=H (show Bl V w3 from((((Bl.dr Bl.eH).ca b1).ca b2).ca b3).ca hb3);obtain⟨SA,BA,CO,JO⟩:=kB (nH w3 (tZ s) 4 D #[C (eD s.a),C (eD s.b),C (eD s.n),C (eD s.st)] D) (eL w3 (.cells #[C (eD s.a),C (eD s.b),C (eD s.n),C (eD s.st)] 9)) (λW hW=>yU (tZ s) (bs []) (Z (G ⟨w3.heap.size,0,E⟩) 4 4) W hW (by simp[tZ])) (λW (hW:Bk W w3.heap.size 9 #[C (eD s.a),C (eD s.b),C (eD s.n),C (eD s.st)])=>Tryz.strings_Join w3.heap.size 0 4 (tZ s) (bs [46]) W (λj x hx=>by
  rw[aZ,Bk.ce hW j,bT]
  match j,hx with
  | 0,hx=>injection hx with hx;rw[<-hx];rfl
  | 1,hx=>injection hx with hx;rw[<-hx];rfl
  | 2,hx=>injection hx with hx;rw[<-hx];rfl
  | 3,hx=>injection hx with hx;rw[<-hx];rfl) ((aa2.1 hW).1) (by simp[tZ]) (by simp[tZ]) (by have k:=zT s;have e:(bs [46]).data.toList=[46]:=rfl;rw[e];omega))
 have HE:=H (show lr s=if(tZ s).any (λy=>decide (bs []=y)) then bs [] else bs (Lib.join ((tZ s).map (·.data.toList)) [46]) from rfl);cases hc:(tZ s).any (λy=>decide (bs []=y)) with
 | true=>
  rw[hc] at CO HE;rw[aA D] at HE
  go_wp2_with (go_at_call 72;refine QS (CO _ (by first | exact SA | exact SA.below (Bl.dr Bl.eH))) ?_)
  go_ret;exact⟨by rw[HE.out];rfl,HB.ca (H3.al _)⟩
 | false=>
  rw[hc] at CO HE;rw[az dc] at HE
  go_wp2_with (first | (go_at_call 72;refine QS (CO _ (by first | exact SA | exact SA.below (Bl.dr Bl.eH))) ?_) | (go_at_call 73;refine qx (JO _ BA) λw5 hb5=>?_))
  go_ret;exact⟨by rw[HE.out];rfl,HB.ca ((H3.al _).ca hb5)⟩
theorem Xn (K:ay):K.toList.isEmpty=decide (K=bs []):=by
 have h:(K.toList==(bs []).toList)=decide (K=bs []):=gS;rw[<-h,show(bs []).toList=[] by unfold ByteArray.toList ByteArray.toList.loop;rfl];cases K.toList<;>rfl
theorem Ti (s:eP)(w)(hg:Gb w):aai 125 #[s.v] w (.bool (decide (lr s=bs []))):=by
 obtain⟨X,V,hX,hV,BX,HB,HXw,SV⟩:=gC w #[I J s.a,I J s.b,I J s.n,I J s.st] 112;obtain⟨x0,x1,x2,x3⟩:=pw BX;have KE:∀ W,Bl V W->aai 53 #[.agg #[I J s.a,I J s.b,I J s.n,I J s.st]] W (C (lr s)):=λW hb=>Bx s W (hg.below (HB.ca hb) (aB _));replace KE:=H KE;show Calls _ _ #[.agg #[I J s.a,I J s.b,I J s.n,I J s.st]] _ _;have E1:=Xn (lr s);generalize lr s=K at KE E1 ⊢;have hb0:=br V
 go_enter func125,ntmps125
 go_upto_region 1 with fail
 rw[<-hV,<-hX];clear hV hX
 go_wp2_with (go_at_call 53;refine qx (KE _ Bl.eH) λw3 hb3=>?_)
 go_ret;exact⟨by rw[<-E1];rfl,HB.ca (Bl.ca Bl.eH hb3)⟩
def vI (s:eP):Bool:=decide (lr s=bs [])
theorem WG(hg:Gb w):PredBelow prog 125 #[] (λx:eP=>.agg (eP.cs x).toArray) vI w:=λW x hb=>(Ti x W (hg.below hb (aB _))).mono λ_ _ k=>⟨k.1,Bl.ca hb k.2⟩
theorem Kv (L)(v)(b:Nat)(w)(hg:Gb w)(h:Rw eP.cs 112 4 w b v L)(hn:L.length<=100000):
 aai 127 #[v,.func (.func 125) #[] #[]] w (.bool (L.any vI)):=by
 obtain⟨IX,HE⟩:=eN (λW (hb:Bl w W)=>ixfStay (f:=eP.cs) (λ_=>rfl) vI Tryz.call125 W (WG (hg.below hb (aB _))) (h.bl hb) hn) (wI vI L);generalize lH vI L=ae at*;clear h
 go_enter func127,ntmps127
 go_wp2_with (go_at_call 206;refine qx (IX _ (by first | exact Bl.eH | exact Bl.dr Bl.eH)) λw3 hb3=>?_)
 go_ret;exact⟨aaN,by first | exact(Bl.dr Bl.eH).ca hb3 | exact hb3⟩
theorem kT {P:Program}(w:World)(dT sT ty elem:TypeId)(sz g o dLen dCap:Nat)(a:Addr)(sLen sCap:Nat)(cur:Array Value)(t:TypeId)(cs:List Value)
 (hu:P.underlying dT=G (.slice elem)) (hs:(P.info? elem).map (·.size)=G sz)
 (hg:w.heap[g]?=G (.cells cur t (0,0))) (hn:cs.length=Nat.min sLen dLen*sz)
 (hsrc:∀ j v,cs[j]?=G v->w.cell? (a.add j)=G v) (hfit:o+cs.length<=cur.size) (h1:∀ v∈cs,v.oneCell'=Q):
 (Builtin.copy_ #[dT,sT] ty #[Z (G ⟨g,o,E⟩) dLen dCap,Z (G a) sLen sCap]).run P w=
  .ok (goInt (Nat.min sLen dLen)) (w.setRow g (cur.toList.take o++cs++cur.toList.drop (o+cs.length)).toArray):=by
 have hl:=run_loadCells_list (P:=P) w a cs hsrc;have hst:=run_storeCells_at P g o t cs 0 cur w hg (by simpa using hfit) h1;cases hq:P.info? elem with
 | none=>simp[hq] at hs
 | some i=>
  have hi:i.size=sz:=by simpa[hq] using hs
  simp[Builtin.copy_,run_underlying hu,Builtin.lenOf,Builtin.firstCells,sizeOf,typeInfo,hq,hi,<-hn,hl,hst]
theorem xE {P:Program}(w:World)(dT sT ty elem:TypeId)(d a:Option Addr)(dLen dCap sLen sCap:Nat)(hu:P.underlying dT=G (.slice elem))(hs:(P.info? elem).map (·.size)=G sz)(hn:Nat.min sLen dLen=0):
 (Builtin.copy_ #[dT,sT] ty #[Z d dLen dCap,Z a sLen sCap]).run P w= .ok (goInt 0) w:=by
 cases hq:P.info? elem with
 | none=>simp[hq] at hs
 | some i=>
  have hl:∀ (x:Addr),(loadCells x 0).run P w= .ok #[] w:=λx=>by simpa using run_loadCells_list (P:=P) w x [] sm
  cases d<;>cases a<;>simp[Builtin.copy_,run_underlying hu,Builtin.lenOf,Builtin.firstCells,sizeOf,typeInfo,hq,hn,storeCells,hl]
theorem uH {P:Program}{ops:Array Oper}{rest:List Oper}{o:Oper}{a:Act}{ar:Exit->Act->World->Prop}(hgd:o.guard=E)(d s:Operand)(dT sT:TypeId)
 (ho:o.op= .call {callee:=.builtin .copy,args:=#[d,s],argTypes:=#[dT,sT]}) (elem:TypeId) (sz:Nat) (hu:P.underlying dT=G (.slice elem)) (hsz:(P.info? elem).map (·.size)=G sz)
 (dp sp:Option Addr) (dLen dCap sLen sCap:Nat) (hd:a.eval d= Z dp dLen dCap) (hs:a.eval s= Z sp sLen sCap)
 (g off:Nat) (cur:List Value) (t:TypeId) (hg:w.heap[g]?=G (.cells cur.toArray t (0,0))) (cs:List Value) (hn:cs.length=Nat.min sLen dLen*sz)
 (hpos:0<Nat.min sLen dLen->dp=G ⟨g,off,E⟩/\∃ ad,sp=G ad/\∀ j v,cs[j]?=G v->w.cell? (ad.add j)=G v)
 (hfit:off+cs.length<=cur.length) (h1:∀ v∈cs,v.oneCell'=Q) (B:Nat) (w0:World) (hb:Below B w0 w) (hBg:B<=g)
 (h:∀ w',Hid (w'.heap[g]?=G (.cells (splice cur off cs).toArray t (0,0)))->Below B w0 w'->wpList P ops ar rest (a.put o.dst (goInt (Nat.min sLen dLen))) w'):
 wpList P ops ar (o::rest) a w:=by
 refine wpList_plain hgd λK hK=>?_;by_cases h0:Nat.min sLen dLen=0
 ·have hrun:=xE (P:=P) w dT sT o.type elem dp sp dLen dCap sLen sCap hu hsz h0;obtain rfl:cs=[]:=cP (by rw[hn,h0,Nat.zero_mul]);unfold Oper.wp;simp[execOp,ho,resolve,invoke,builtin,hd,hs,hrun,Result.andThen];have k:=hK _ _ (h w (show _=_ by simpa[splice] using hg) hb);rw[h0] at k;exact k
 ·obtain⟨rfl,ad,rfl,hsrc⟩:=hpos om;have hrun:=kT (P:=P) w dT sT o.type elem sz g off dLen dCap ad sLen sCap cur.toArray t cs hu hsz hg hn hsrc (by simpa using hfit) h1;rw[show cur.toArray.toList.take off++cs++cur.toArray.toList.drop (off+cs.length)=splice cur off cs by simp[splice]] at hrun;unfold Oper.wp;simp[execOp,ho,resolve,invoke,builtin,hd,hs,hrun,Result.andThen];exact hK _ _ (h (w.setRow g (splice cur off cs).toArray) (show _=_ from setRow_heap w g _ _ t _ hg) (below_setRow hb hBg _))
theorem S0(h:W.ownsRow b t sz (Z (G ⟨g,0,E⟩) n c) n xs):∃ cur:List Value,W.heap[g]?=G (.cells cur.toArray t (0,0))/\cur.length=c*sz:=by
 rcases h.2 with⟨hv,_⟩ | ⟨g',cap,cur,hv,_,hh,_,_,hs,_⟩
 ·injection hv with h1;cases h1
 ·injection hv with h1 _ h2
  injection h1 with h1
  injection h1 with h1
  subst h1;subst h2;exact⟨cur.toList,by simpa using hh,by simpa using hs⟩
theorem Bl.grown(h:w.grownBy W E):Bl w W:=⟨h.os,h.tape,h.output,h.size,λk hk=>h.block k hk sm⟩
theorem Gh {α:Type}(L cs:List α)(h:cs.length=L.length):splice L 0 cs=cs:=by
 unfold splice;rw[List.take_zero,List.drop_of_length_le om];simp
theorem Nl:(prog.info? 112).map (·.size)=G 4:=kr
theorem yz (L)(v)(b:Nat)(w)(h:Rw eP.cs 112 4 w b v L)(hn:L.length<=100000):
 Calls prog 129 #[v] w λe w'=>∃ v',e= .returned v'/\Rw eP.cs 112 4 w' w.heap.size v' L/\Bl w w':=by
 obtain⟨A,cap,rfl,hnc,hcap⟩:=h.form;have HS:=H (Rw.sl j0 h);obtain⟨i,au,hi,hz,h1,h2,h3⟩:=uL.i;obtain⟨m,hm,HM⟩:=nh L.length;rw[<-hm] at HS hn hnc ⊢;have HI:=H (aJ hi (aJ hz (aJ h1 (aJ h2 h3))));have SRC:∀ W,Bl w W->0<Nat.min m m->∃ ad,A=G ad/\∀ j v,(L.flatMap eP.cs)[j]?=G v->W.cell? (ad.add j)=G v:=λW hb hp=>by
  cases hA:A with
  | none=>have:=(HS.nil hA).1;simp at hp;omega
  | some ad=>exact⟨ad,D,(HS.bl hb).ce ad hA⟩
 replace SRC:=H SRC;have HL:=H (show(L.flatMap eP.cs).length=m*4 from HS.len);have HN:=H (show(L.flatMap eP.cs).length=Nat.min m m*4 by rw[HL.out];simp);clear h hm hi hz
 go_enter func129,ntmps129
 go_wp2_with (first | (at_make;refine wpList_make_full _ D _ _ 84 D w.heap.size 112 i au 4 underlying84 HI.out.1 HI.out.2.1 HI.out.2.2.1 _ _ _ _ m D D D D (by rw[HI.out.2.2.2.1];omega) eQ (aB _) ?_;intro w1 ho1 hg1;obtain⟨cur,hc1,hc2⟩:=S0 ho1;obtain⟨HB1,HC,HCL⟩:=gi (Bl.grown hg1) hc1 hc2;clear ho1 hg1 hc1 hc2) | (refine uH (w0:=w) (B:=w.heap.size) D (.tmp 7) (.tmp 8) 84 84 D 112 4 underlying84 Nl (G ⟨w.heap.size,0,E⟩) A m m m cap D D w.heap.size 0 cur 112 HC (L.flatMap eP.cs) HN (λhp=>⟨D,SRC _ HB1 hp⟩) (by rw[HL.out,HCL.out];omega) HS.one HB1 (aB _) ?_;intro w2 hg2 hb2))
 have hg2':=hg2.out;rw[Gh _ _ (by rw[HL.out,HCL.out])] at hg2';have hg3:=H hg2';go_ret;refine⟨Z (G ⟨w.heap.size,0,E⟩) m m,D,?_,hb2⟩;have hl:=HL.out;have hm:=HM.out;refine⟨by rw[hl,hm],.inr ⟨w.heap.size,m,_,by rw[<-hm],aB _,hg3,om,eQ,by rw[dN,hl],?_⟩⟩;rw[<-hm,<-hl,aT]
def tf:Option eP->List eP->Bool
 | _,[]=>Q
 | p,x::r=>x.ok&&(match p with | none=>Q | some y=>decide (fB y x<0))&&tf (G x) r
def yW (L:List eP):Bool:=tf E L
def DD (L:List eP):Nat->Option eP
 | 0=>E
 | j+1=>L[j]?
theorem Sw (p)(x:eP)(r:List eP)(h:x.ok=z):tf p (x::r)=z:=by
 cases p<;>simp[tf,h]
theorem ND (x:eP)(r:List eP)(h:x.ok=Q):tf E (x::r)=tf (G x) r:=by
 rw[tf,h];simp
theorem Sv (y x:eP)(r:List eP)(h:x.ok=Q)(hc:fB y x<0):tf (G y) (x::r)=tf (G x) r:=by
 rw[tf,h];simp[hc]
theorem Kc (y x)(r:List eP)(hc:¬fB y x<0):tf (G y) (x::r)=z:=by
 rw[tf];simp[hc]
theorem Gn (L)(v)(b:Nat)(w)(h:Rw eP.cs 112 4 w b v L)(hn:L.length<=100000):
 aai 126 #[v] w (.bool (yW L)):=by
 obtain⟨A,cap,rfl,_,_⟩:=h.form;obtain⟨m,hm,HM⟩:=nh L.length;rw[<-hm] at hn ⊢;have HR:=H h;clear h hm
 go_enter func126,ntmps126
 go_wp2_with fail
 go_loopw [7] (λi wr=>∃ k:Nat,k<=m/\i= I J k/\yW L=tf (DD L k) (L.drop k)/\Bl w wr) (λi _=>m - (intOf i).toNat)
 case atStart=>exact⟨0,aD _,D,D,Bl.eH⟩
 case round=>
  obtain⟨k,hk,rfl,hrs,hb⟩:=hrel;by_cases hlt:k<m
  ·have hk':k<L.length:=by rw[<-HM.out];exact hlt
   obtain⟨x,hxk⟩:∃ x,L[k]?=G x:=⟨_,aW hk'⟩;obtain⟨g,rfl,_,c0,c1,c2,c3⟩:=Rw.XO (HR.bl hb) hxk;have hxe:L[k]=x:=by rw[aW hk'] at hxk;injection hxk
   rw[aR hk',hxe] at hrs;have HP:=H (show DD L (k+1)=G x from hxk);replace hrs:=H hrs;have NN:∀ W,aai 193 #[.agg #[I J x.a,I J x.b]] W (.bool (!x.ok)):=λW=>kl ⟨x.a,x.b⟩ W;obtain⟨i1,i2⟩:=ln (k:=k) (m:=m) om;have HBk:=H hb;have hb0:=br wr;clear hxe
   go_upto_region 4 with fail
   obtain⟨V2,G2,hV2,hG2,BG2,LV2⟩:=iC wr #[I J x.a,I J x.b,I J x.n,I J x.st] 112;rw[<-hV2,<-hG2];clear hV2;replace hG2:=H hG2;obtain⟨g20,g21,g22,g23⟩:=pw BG2;have HB2:=H (HBk.ca LV2);have hb0:=br V2;replace NN:=H NN;by_cases hok:x.ok=Q
   ·rw[hok] at NN;replace NN:=NN.out;simp only[Bool.not_true] at NN;replace NN:=H NN;rcases dS k with h0 | h0
    ·subst h0;have RF:=H (show yW L=tf (DD L 1) (L.drop 1) by rw[hrs.out,HP.out];exact ND _ _ hok);have i3:¬((0:Nat):Int)>0:=om;clear hok;refine jI (T:=Bl V2) (S:=Bl V2) [] hb0.dr hb0.dr λhT0 hS0=>?_
     try dsimp only at hT0 hS0
     refine qd 0 ?_;refine td 1 ?_;refine eK 2 λKQ hK=>?_;go_simp
     (go_at_call 193;refine qx (NN _) λw6 hb6=>?_)
     have hT1:=hT0.ca hb6;have hS1:=hS0.ca hb6;refine kq hK ?_;refine aaa [3,4,5,6,7,8,9,10,11,12,13,14,15,16] ?_;refine iU ?_;have hT:=H hT1
     go_wp2_with fail
     exact⟨⟨1,hlt,eB,RF,HB2.ca hT⟩,eE⟩
    ·obtain⟨j,rfl⟩:∃ j,k=j+1:=⟨k - 1,om⟩;have hj:j<L.length:=om;obtain⟨y,hyk⟩:∃ y,L[j]?=G y:=⟨_,aW hj⟩;obtain⟨g',hgg,_,d0,d1,d2,d3⟩:=Rw.XO (HR.bl HB2) hyk;injection hgg with hgg
     injection hgg with hgg
     subst hgg;have CM:=λW=>mx y x W;have i3:((j+1:Nat):Int)>0:=om;have w1:IntKind.i64.wrap (j:Int)=j:=jh om;obtain⟨i4,i5⟩:=ln (k:=j) (m:=m) om;have hrs2:=hrs.out;rw[show DD L (j+1)=G y from hyk] at hrs2;by_cases hc:fB y x<0;have RF:=H (show yW L=tf (DD L (j+1+1)) (L.drop (j+1+1)) by rw[hrs2,HP.out];exact Sv _ _ _ hok hc);have hc':¬fB y x≥0:=om;rotate_left;have RF:=H (show yW L=z by rw[hrs2];exact Kc _ _ _ hc);have hc':fB y x≥0:=om;rotate_left
     all_goals
      generalize fB y x=aj at*;replace CM:=H CM;clear hok hrs2 hyk hxk hk' hj;refine jI (T:=Bl V2) (S:=Bl V2) [] hb0.dr hb0.dr λhT0 hS0=>?_
      try dsimp only at hT0 hS0
      refine qd 0 ?_;refine td 1 ?_;refine eK 2 λKQ hK=>?_;go_simp
      (go_at_call 193;refine qx (NN _) λw6 hb6=>?_)
      have hT1:=hT0.ca hb6;have hS1:=hS0.ca hb6;refine kq hK ?_;refine aaa [3,4,5,6,7,8,9,10] ?_;refine td 11 ?_;refine td 12 ?_;refine eK 13 λKQ hK=>?_;go_simp
      (go_at_call 128;refine qx (CM _) λw7 hb7=>?_)
      have hT2:=hT1.ca hb7;have hS2:=hS1.ca hb7;refine kq hK ?_;refine aaa [14,15,16] ?_;refine iU ?_;have hT:=H hT2
      go_wp2_with fail
     ·exact⟨⟨j+1+1,hlt,eB,RF,HB2.ca hT⟩,eE⟩
     ·go_ret;exact⟨by rw[RF.out];rfl,HB2.ca hT⟩
   ·have hok':x.ok=z:=by simpa using hok
    rw[hok'] at NN;have RF:=H (show yW L=z by rw[hrs.out];exact Sw _ _ _ hok');clear hok;replace NN:=NN.out;simp only[Bool.not_false] at NN;replace NN:=H NN;refine jI (T:=Bl V2) (S:=Bl V2) [] hb0.dr hb0.dr λhT0 hS0=>?_
    try dsimp only at hT0 hS0
    refine qd 0 ?_;refine td 1 ?_;refine eK 2 λKQ hK=>?_;go_simp
    (go_at_call 193;refine qx (NN _) λw6 hb6=>?_)
    have hT1:=hT0.ca hb6;have hS1:=hS0.ca hb6;refine kq hK ?_;refine aaa [3,4,5,6,7,8,9,10,11,12,13,14,15,16] ?_;refine iU ?_;have hT:=H hT1
    go_wp2_with fail
    go_ret;exact⟨by rw[RF.out];rfl,HB2.ca hT⟩
  ·have ek:k=m:=om;have i1:¬(k:Int)<m:=om;obtain⟨LE,HBk⟩:=eN (show yW L=Q by rw[hrs,ek,HM.out,bX];rfl) hb;clear hrs
   go_wp2_with fail
   go_ret;exact⟨by rw[LE.out];rfl,HBk⟩
theorem VX (W)(hg:Gb W):aai 114 #[ax,C ⟨#[46]⟩] W (Z (G ⟨W.heap.size,0,E⟩) 1 1):=by
 obtain⟨m,hm⟩:=hg.c1;have C0:Lib.countB ⟨#[]⟩ ⟨#[46]⟩=0:=dk;have SP:=Tryz.strings_Split ⟨#[]⟩ ⟨#[46]⟩ m W dc hm dc;rw[C0] at SP;exact SP.mono λe w' ⟨h1,h2⟩=>⟨h1,by rw[h2];exact gl _ _⟩
theorem xU (w)(hg:Gb w):aai 124 #[ax] w (.tuple #[.agg #[av,av,av,av],.bool z]):=by
 have SP:=H (λW (hb:Bl w W)=>VX W (hg.below hb (aB _)));have hb0:=br w
 go_enter func124,ntmps124
 go_upto_region 1 with fail
 obtain⟨V,an,hV,hG,BG,LV⟩:=iC w #[av,av,av,av] 112;rw[<-hV,<-hG];clear hV;replace hG:=H hG;obtain⟨g0,g1,g2,g3⟩:=pw BG
 go_upto_region 3 with(go_at_call 114;refine qx (SP _ LV) λw3 hb3=>?_)
 obtain⟨HB3,hBG⟩:=eN (show Bl V w3 from hb3) (show Bk w3 an 112 #[av,av,av,av] from hb3.bl BG);have c0:w3.cell? ⟨an,0,E⟩=G av:=Bk.ce hBG 0;have c1:w3.cell? ⟨an,1,E⟩=G av:=Bk.ce hBG 1;have c2:w3.cell? ⟨an,2,E⟩=G av:=Bk.ce hBG 2;have c3:w3.cell? ⟨an,3,E⟩=G av:=Bk.ce hBG 3;have f0:w3.frozen? ⟨an,0,E⟩=z:=Bk.fr hBG 0;have f1:w3.frozen? ⟨an,1,E⟩=z:=Bk.fr hBG 1;have f2:w3.frozen? ⟨an,2,E⟩=z:=Bk.fr hBG 2;have f3:w3.frozen? ⟨an,3,E⟩=z:=Bk.fr hBG 3
 go_wp2_with fail
 have hGw:w.heap.size<=an:=by rw[hG.out];exact aB _
 refine bodyPost_ret_by (v:=.tuple #[.agg #[av,av,av,av],.bool z]) (by rw[results_cell_tmp D];go_simp) D ⟨D,?_⟩;exact((((LV.ca HB3).st hGw _).st hGw _).st hGw _).st hGw _
theorem Rw.tk {α:Type}{f:α->List Value}{L:List α}{A}(hf:∀ x,(f x).length=sz)(h:Rw f t sz W b (Z A L.length cap) L){e:Nat}(he:e<=L.length):Rw f t sz W b (Z A e cap) (L.take e):=by
 have hl:(L.take e).length=e:=by rw[aK];omega
 have hft:=(gB f sz hf L e).1;rcases h.2 with⟨hv,hn⟩ | ⟨g,c,cur,hv,hg,hh,hn,hm,hs,ht⟩
 ·injection hv with h1 h2 h3
  subst h1;subst h3;obtain rfl:e=0:=om;exact Rw.nil
 ·injection hv with h1 h2 h3
  subst h1;subst h3;refine⟨by rw[hft,aK,h.1,hl];exact cM (bt sz he),.inr ⟨g,cap,cur,by rw[hl],hg,hh,om,hm,hs,?_⟩⟩;rw[hft,hl,<-ht,du,cM (bt sz he)]
def Cw (m:Nat)(many:Int):Nat:=min m (min (max many 1) 100).toNat
def IB (L:List eP)(many:Int):List eP×ay×Int:=
 if yW L=z∨L.any vI=Q then([],bs [],140)
 else if Cw L.length many=L.length then(L,bs [],0)
 else(L.take (Cw L.length many),lr ((L[Cw L.length many - 1]?).getD ⟨0,0,0,0⟩),0)
theorem Ks (L)(many:Int)(v)(b:Nat)(w)(hg:Gb w)(h:Rw eP.cs 112 4 w b v L)(hn:L.length<=10000)(hm1: -9223372036854775808<=many)(hm2:many<=9223372036854775807):
 Calls prog 86 #[v,ax,I J many] w λe w'=>∃ v',e= .returned (.tuple #[v',C (IB L many).2.1,I J (IB L many).2.2])/\Rw eP.cs 112 4 w' w.heap.size v' (IB L many).1/\Bl w w':=by
 obtain⟨A,cap,rfl,hnc,hcap⟩:=h.form;obtain⟨m,hm,HM⟩:=nh L.length;obtain⟨HR,PA⟩:=eN h (λW (hb:Bl w W)=>xU W (hg.below hb (aB _)));have RI:=λW (hb:Bl w W)=>Gn L _ b W (h.bl hb) om;have NK:=λW (hb:Bl w W)=>Kv L _ b W (hg.below hb (aB _)) (h.bl hb) om;have CP:=H (λW (hb:Bl w W)=>yz L _ b W (h.bl hb) om);rw[<-hm] at hnc RI NK CP HR ⊢;clear h hm;have HGe:=H (show IB L many=if yW L=z∨L.any vI=Q then([],bs [],140)
  else if Cw m many=m then(L,bs [],0)
  else(L.take (Cw m many),lr ((L[Cw m many - 1]?).getD ⟨0,0,0,0⟩),0) by rw[HM.out];rfl)
 generalize IB L many=PG at HGe ⊢;have hb0:=br w
 go_enter func86,ntmps86
 go_upto_region 3 with(go_at_call 124;refine qx (PA _ hb0) λw3 hb3=>?_)
 have HB3:=H hb3;obtain⟨V,an,hV,hG,BG,LV⟩:=iC w3 #[av,av,av,av] 112;rw[<-hV,<-hG];clear hV;replace hG:=H hG;obtain⟨g0,g1,g2,g3⟩:=pw BG;have HBV:=H (HB3.ca LV);cases hr:yW L with
 | false=>
  rw[hr] at RI HGe;have HE:=H (show PG=([],bs [],140) by rw[HGe.out,aA (aG D)]);replace RI:=H RI;clear hr
  go_wp2_with (go_at_call 126;refine qx (RI _ HBV) λw4 hb4=>?_)
  have he:=HE.out;subst he;refine bodyPost_ret_by (results_tmp3 D _ _ _) D ⟨_,D,Rw.nil,HBV.ca hb4⟩
 | true=>
  rw[hr] at RI HGe;replace RI:=H RI;cases hk:L.any vI with
  | true=>
   rw[hk] at NK HGe;have HE:=H (show PG=([],bs [],140) by rw[HGe.out,aA (aI D)]);replace NK:=H NK;clear hr hk
   go_wp2_with (first | (go_at_call 126;refine qx (RI _ HBV) λw4 hb4=>?_) | (go_at_call 127;refine qx (NK _ (HBV.ca hb4)) λw5 hb5=>?_))
   have he:=HE.out;subst he;refine bodyPost_ret_by (results_tmp3 D _ _ _) D ⟨_,D,Rw.nil,(HBV.ca hb4).ca hb5⟩
  | false=>
   rw[hk] at NK HGe;have HE:=H (show PG=if Cw m many=m then(L,bs [],0) else(L.take (Cw m many),lr ((L[Cw m many - 1]?).getD ⟨0,0,0,0⟩),0) by rw[HGe.out,az sm]);replace NK:=H NK;clear hr hk
   go_wp2_with (first | (go_at_call 126;refine qx (RI _ HBV) λw4 hb4=>?_) | (go_at_call 127;refine qx (NK _ (HBV.ca hb4)) λw5 hb5=>?_))
   go_loopw [12] (λi wr=>i= I J 0/\Bl w wr) (λ_ _=>0)
   case atStart=>exact⟨D,(HBV.ca hb4).ca hb5⟩
   case round=>
    obtain⟨rfl,hb⟩:=hrel;have HW:=H hb;have hb0:=br wr;by_cases hem:Cw m many=m
    ·have HE2:=H (show PG=(L,bs [],0) by rw[HE.out,aA hem]);have hE:min (m:Int) (min (max many 1) 100)=(m:Int):=by unfold Cw at hem;omega
     clear hem;rcases dS m with h0 | h0
     subst h0;have i1:¬(0:Int)<((0:Nat):Int):=om;rotate_left;have i1:(0:Int)<(m:Int):=om;rotate_left
     all_goals
      go_upto_region 6 with fail
      refine ab3 (S:=λw'=>Bl wr w') kr (Bl.dr hb0) (λhS=>?_);refine tH 0 hS ?_;refine tH 1 hS ?_;refine tH 2 hS ?_;refine tH 3 hS ?_;refine tH 4 hS ?_
     refine oI 5 hS ?_;rotate_left;refine tH 5 hS ?_;rotate_left
     all_goals
      refine tH 6 hS ?_;refine tH 7 hS ?_;refine oI 8 hS ?_;refine oI 9 hS ?_;refine oI 10 hS ?_;refine oI 11 hS ?_;refine oI 12 hS ?_;refine oI 13 hS ?_;refine oI 14 hS ?_;refine tH 15 hS ?_;refine XR ?_
      go_wp2_with (go_at_call 129;refine aaj (CP _ HW.dr) λv6 w6 hr6 hb6=>?_)
      have he:=HE2.out;subst he;refine bodyPost_ret_by (results_tmp3 D _ _ _) D ⟨_,D,fa hr6 HW.dr.size,HW.dr.ca hb6⟩
    ·obtain⟨j,hj⟩:∃ j,Cw m many=j+1:=⟨Cw m many - 1,by unfold Cw at hem ⊢;omega⟩;have HE2:=H (show PG=(L.take (j+1),lr ((L[j]?).getD ⟨0,0,0,0⟩),0) by rw[HE.out,az hem,hj];rfl);have hE:min (m:Int) (min (max many 1) 100)=(j:Int)+1:=by unfold Cw at hj;omega
     have hjm:j+1<m:=by unfold Cw at hj hem;omega
     have hjL:j<L.length:=by rw[<-HM.out];omega
     obtain⟨x,hxj⟩:∃ x,L[j]?=G x:=⟨_,aW hjL⟩;obtain⟨g,rfl,_,d0,d1,d2,d3⟩:=Rw.XO (HR.bl HW) hxj;obtain⟨HE3,CT⟩:=eN (show PG=(L.take (j+1),lr x,0) by rw[HE2.out,hxj];rfl) (λW (hb:Bl w W)=>yz (L.take (j+1)) (Z (G ⟨g,0,E⟩) (j+1) cap) b W ((Rw.tk (f:=eP.cs) (L:=L) (t:=112) (sz:=4) (cap:=cap) (λ_=>rfl) (by rw[<-HM.out];exact HR) (e:=j+1) om).bl hb) fO);have KE:∀ W,Bl w W->aai 53 #[.agg #[I J x.a,I J x.b,I J x.n,I J x.st]] W (C (lr x)):=λW hb=>Bx x W (hg.below hb (aB _));replace KE:=H KE;generalize lr x=K at KE HE3;have h0:0<m:=om;have i1:(0:Int)<(m:Int):=om;have i2:¬(j:Int)+1=(m:Int):=om;have i3:(j:Int)+1<=(cap:Int):=om;have i4:(0:Int)<=(j:Int)+1:=om;obtain⟨i5,i6⟩:=ln (k:=j) (m:=m) om;have w1:IntKind.i64.wrap (j:Int)=j:=jh om;clear hem hj hxj hjL
     go_upto_region 6 with fail
     refine ab3 (S:=λw'=>Bl wr w') kr (Bl.dr hb0) (λhS=>?_);refine tH 0 hS ?_;refine tH 1 hS ?_;refine tH 2 hS ?_;refine tH 3 hS ?_;refine tH 4 hS ?_;refine tH 5 hS ?_;refine tH 6 hS ?_;refine tH 7 hS ?_;refine oI 8 hS ?_;refine oI 9 hS ?_;refine oI 10 hS ?_;refine oI 11 hS ?_;refine oI 12 hS ?_;refine oI 13 hS ?_;refine oI 14 hS ?_;refine tH 15 hS ?_;refine XR ?_
     go_upto_region 11 with fail
     go_region_held3 (λw'=>Bl wr w') (exact n7) (first | (go_at_call 129;refine aaj (CT _ (HW.ca ms)) λv6 w6 hr6 hb6=>?_) | (go_at_call 53;refine qx (KE _ (HW.ca ms)) λw7 hb7=>?_))
     go_wp2_with fail
     have he:=HE3.out;subst he;refine bodyPost_ret_by (results_tmp3 D _ _ _) D ⟨_,D,fa (hr6.bl hb7) HW.size,HW.ca ms⟩
end Tp
namespace SgM
open Go Go.RowKit CrcM FrM
open Ds (fP)
def pW (w:World)(v:Value)(F:List ay):Prop:=
 ∃ A cap,v= Z A F.length cap/\(F≠[]->∃ g off,A=G ⟨g,off,E⟩/\g<w.heap.size/\∀ k (h:k<F.length),w.cell? ⟨g,off+k,E⟩=G (C F[k]))
theorem pW.below{v}{F}(h:pW w v F)(hb:Below w.heap.size w w'):pW w' v F:=by
 obtain⟨A,cap,h1,h2⟩:=h;refine⟨A,cap,h1,λhne=>?_⟩;obtain⟨g,off,e,hg,hc⟩:=h2 hne;exact⟨g,off,e,bK hg hb.size,λk hk=>(hb.cell aaC).trans (hc k hk)⟩
def qj (F:List ay):List Sg:=(F.filter λs=>Cx s.data.toList).map λs=>Kt s.data.toList
theorem N7 (F:List ay)(k:Nat)(h:k<F.length):qj (F.take (k+1))=qj (F.take k)++(if Cx F[k].data.toList=Q then [Kt F[k].data.toList] else []):=by
 rw[aL h];unfold qj;rw[bF,cz]
 congr 1
 by_cases hb:Cx F[k].data.toList=Q
 ·rw[aA hb];simp[hb]
 ·rw[az hb];simp[hb]
theorem IA (F):(qj F).length<=F.length:=by unfold qj;rw[bg];exact bp _ _
theorem Wp {F}{s:Sg}(h:s∈qj F):sw s=Q:=by
 unfold qj at h;rw[bI] at h;obtain⟨a,ha,rfl⟩:=h;exact(U6 (aa9.1 ha).2).1
theorem GY:(prog.info? 133).map (λi=>(i.zero,i.size,i.bytes))=G (G (.agg #[I U 0,av]),2,16):=kr
theorem Ex:(prog.info? 9).map (λi=>(i.zero,i.size,i.bytes))=G (G ax,1,16):=kr
theorem Wz (s:Sg):∀ u∈[I U (s.k.toNat:Int),I J s.n],u.oneCell'=Q:=Ip s
theorem De (L:List Sg)(s:Sg):sO (L++[s])=sO L++[I U (s.k.toNat:Int),I J s.n]:=by rw[Iq];rfl
def tp (o:Option Sg)(vs vt:Value):Array Value:=#[I U ((o.getD zS).k.toNat:Nat),I J (o.getD zS).n,.bool o.isSome,vs,vt]
def oA (L:List Sg)(o:Option Sg):List (List UInt8):=(CW L o).map Ec
theorem im{base:Nat}{v}(h:w.ownsRow base T size v n xs):∃ A c,v= Z A n c:=by
 rcases h.2 with⟨rfl,rfl⟩ | ⟨g,cap,cur,rfl,_⟩
 all_goals
  exact⟨_,_,D⟩
theorem Gz{size' n':Nat}{v}{xs'}(h:w.ownsRow b T size v n xs)(h':w.ownsRow b' T' size' v' n' xs')(hT:T≠T'):v.ownBlock=E∨v.ownBlock≠v'.ownBlock:=by
 rcases h.2 with⟨rfl,rfl⟩ | ⟨g,cap,cur,rfl,_,hg,_⟩
 ·exact aG D
 ·right;rcases h'.2 with⟨rfl,rfl⟩ | ⟨g',cap',cur',rfl,_,hg',_⟩
  ·intro e;cases e
  ·intro e;injection e with e
   have e':g=g':=e;subst e';rw[hg] at hg';injection hg' with hg'
   injection hg' with _ h2 _
   exact hT h2
theorem G6 (w:World)(r):w.grownBy w r:=⟨D,D,D,aB _,λ_ _ _=>rfl⟩
theorem nd{base O:Nat}{v}(h:w.ownsRow base T size v n xs)(hO:O<base)(i:Nat)(u):(w.setCell ⟨O,i,E⟩ u).ownsRow base T size v n xs:=
 h.kept (sE (G6 w (G O)) i u) (by
  cases hv:v.ownBlock with
  | none=>exact aG D
  | some k=>right;intro e;injection e with e;have:=(h.lt k hv).1;omega)
theorem fP.grown{cs}{r}(h:fP w g t cs)(hg:w.grownBy w' r)(hr:G g≠r):fP w' g t cs:=(hg.block g h.lt hr).trans h
def oy (w:World)(v:Value)(L:List Sg):Prop:=
 ∃ A cap,v= Z A L.length cap/\(L≠[]->∃ g off,A=G ⟨g,off,E⟩/\g<w.heap.size/\∀ k (h:k<L.length),w.cell? ⟨g,off+k*2,E⟩=G (I U (L[k].k.toNat:Nat))/\w.cell? ⟨g,off+k*2+1,E⟩=G (I J L[k].n))
theorem oy.below{v}{L}(h:oy w v L)(hb:Below w.heap.size w w'):oy w' v L:=by
 obtain⟨A,cap,h1,h2⟩:=h;refine⟨A,cap,h1,λhne=>?_⟩;obtain⟨g,off,e,hg,hc⟩:=h2 hne;exact⟨g,off,e,bK hg hb.size,λk hk=>⟨(hb.cell aaC).trans (hc k hk).1,(hb.cell aaC).trans (hc k hk).2⟩⟩
theorem oy.own{base:Nat}{v}{L:List Sg}(h:w.ownsRow base T 2 v L.length (sO L)):oy w v L:=by
 rcases h.2 with⟨rfl,h0⟩ | ⟨g,cap,cur,rfl,_,hg,_⟩
 ·exact⟨E,0,by rw[h0],λhne=>absurd (aa6.1 h0) hne⟩
 ·refine⟨_,cap,D,λ_=>⟨g,0,D,(aa2.1 hg).1,λk hk=>?_⟩⟩;obtain⟨g1,g2⟩:=wh L k hk;have c1:=h.cells (g:=g) D (2*k) _ g1;have c2:=h.cells (g:=g) D (2*k+1) _ g2;have ea:∀ j,(⟨g,0,E⟩:Addr).add j=⟨g,j,E⟩:=λj=>by unfold Addr.add;split<;>simp_all
  rw[ea] at c1 c2;rw[aZ,da];exact⟨c1,c2⟩
theorem Nj (L:List Sg)(k:Nat)(h:k<L.length):xy (L.take (k+1))=if YT L[k]=Q then G L[k] else xy (L.take k):=by
 rw[aL h,Nk]
def JC (F:List ay)(w:World)(e:Ending)(w':World):Prop:=
 ∃ vs vt,e= .returned (.agg (tp (xy (uq (qj F))) vs vt))/\w'.ownsRow w.heap.size 133 2 vs (iT (uq (qj F)) (xy (uq (qj F)))).length (sO (iT (uq (qj F)) (xy (uq (qj F)))))
  /\w'.ownsRow w.heap.size 9 1 vt (oA (uq (qj F)) (xy (uq (qj F)))).length (tK ((oA (uq (qj F)) (xy (uq (qj F)))).mergeSort leB))/\Below w.heap.size w w'
theorem GA (a b:Int):∀ u∈[I U a,I J b],u.oneCell'=Q:=by
 intro u hu;simp at hu;rcases hu with rfl | rfl<;>rfl
theorem J7 {x}(h:rS x=Q):uR E x=Q:=by simp[uR,vR,Xg,h]
theorem JP {x}(h:rS x=z):sI E x=Q:=by simp[sI,vR,h]
theorem J6 {x t}(hne:T7 x t=z)(h:rS x=Q)(hg:t.n<=x.n):uR (G t) x=Q:=by simp[uR,vR,Xg,h,hne,hg]
theorem JM {x t}(hne:T7 x t=z)(h:rS x=z):sI (G t) x=Q:=by simp[sI,vR,h,hne]
theorem Rx {x t}(hne:T7 x t=z)(hg:¬t.n<=x.n):sI (G t) x=Q:=by simp[sI,vR,Xg,hne,hg]
theorem wA (W:World)(T:TypeId)(a:Value)(g:Nat)(hg:g=W.heap.size):∀ (j:Nat) (u:Value),[a][j]?=G u->(W.alloc (.cells #[a] T)).cell? ((⟨g,0,E⟩:Addr).add j)=G u:=by
 subst hg;intro j u h
 match j with
 | 0=>simp at h;subst h;simp[Addr.add]
 | j+1=>simp at h
theorem wy (s):∀ u∈[Value.string s],u.oneCell'=Q:=by
 intro u hu;simp at hu;rw[hu];rfl
theorem acg (M:List Sg)(o)(h:M.length<=k):(oA M o).length<=k:=by
 unfold oA CW;rw[bg];exact aH (bp _ _) h
theorem vr{v}{cs}(h:fP w g T cs)(h':w.ownsRow b T' size v n xs)(hT:T≠T'):G g≠v.ownBlock:=by
 rcases h'.2 with⟨rfl,rfl⟩ | ⟨g',cap',cur',rfl,_,hg',_⟩
 ·intro e;cases e
 ·intro e;injection e with e
  have e':g=g':=e;subst e';have h2:w.heap[g]?=_:=h;rw[h2] at hg';injection hg' with hg'
  injection hg' with _ h3 _
  exact hT h3
theorem ma{cs}(h:fP w g t cs)(hb:Below w.heap.size w w'):fP w' g t cs:=(hb.block g h.lt).trans h
theorem Bc {P:Program}{fn:Func}{p:Tmp}{ty:TypeId}(h:fn.results=#[.cell p ty])(tmps:Array Value)(w:World)(g:Nat)(t:TypeId)(cs:Array Value)(fr:Nat×Nat)(d:TypeDesc)
 (hp:tmps.getD p undef= .pointer (G ⟨g,0,E⟩)) (hg:w.heap[g]?=G (.cells cs t fr))
 (hu:P.underlying ty=G d) (hd:(match d with | .struct _ | .array _ _=>Q | _=>z)=Q) (hi:(P.info? ty).map (·.size)=G cs.size):
 (results fn tmps).run P w= .ok (.agg cs) w:=by
 have hp':tmps[p]?.getD undef= .pointer (G ⟨g,0,E⟩):=by simpa using hp
 simp[results,h,hp',asAddr,run_loadVar_row w g t ty cs fr d hg hu hd hi]
theorem Pl:(prog.info? 179).map (·.size)=G 5:=kr
theorem PO{R:Nat}(h:fP W R 179 (tp E aw aw))(o:Option Sg)(vs vt:Value):
 fP (((((W.setCell ⟨R,0,E⟩ (I U ((o.getD zS).k.toNat:Nat))).setCell ⟨R,1,E⟩ (I J (o.getD zS).n)).setCell ⟨R,2,E⟩ (.bool o.isSome)).setCell ⟨R,3,E⟩ vs).setCell ⟨R,4,E⟩ vt) R 179 (tp o vs vt):=
 ((((h.mu 0 _).mu 1 _).mu 2 _).mu 3 _).mu 4 _
theorem zJ{v}(h:w.ownsRow b T size v n xs)(hb:b'<=b):w.ownsRow b' T size v n xs:=by
 refine⟨h.1,?_⟩;rcases h.2 with h2 | ⟨g,cap,cur,h1,h2,h3⟩
 ·exact aG h2
 ·exact aI ⟨g,cap,cur,h1,aH hb h2,h3⟩
theorem DX{R:Nat}{v}(h:W.ownsRow b T size v n xs)(hR:R<b)(a0 a1 a2 a3 a4:Value):
 (((((W.setCell ⟨R,0,E⟩ a0).setCell ⟨R,1,E⟩ a1).setCell ⟨R,2,E⟩ a2).setCell ⟨R,3,E⟩ a3).setCell ⟨R,4,E⟩ a4).ownsRow b T size v n xs:=
 nd (nd (nd (nd (nd h hR _ _) hR _ _) hR _ _) hR _ _) hR _ _
theorem Hk{R:Nat}(h:Below w.heap.size w W)(hR:w.heap.size<=R)(a0 a1 a2 a3 a4:Value):
 Below w.heap.size w (((((W.setCell ⟨R,0,E⟩ a0).setCell ⟨R,1,E⟩ a1).setCell ⟨R,2,E⟩ a2).setCell ⟨R,3,E⟩ a3).setCell ⟨R,4,E⟩ a4):=
 ((((h.setCell hR _).setCell hR _).setCell hR _).setCell hR _).setCell hR _
structure Out (w3 wr:World)(o:Option Sg)(M:List Sg)(vs vt:Value):Prop where
 fo:fP wr w3.heap.size 179 (tp o vs vt)
 qp:wr.ownsRow (w3.heap.size+1) 133 2 vs (iT M o).length (sO (iT M o))
 mZ:wr.ownsRow (w3.heap.size+1) 9 1 vt (oA M o).length (tK (oA M o))
 below:Below w3.heap.size w3 wr
section
variable {w3 wr w':World}{o:Option Sg}{M:List Sg}{vs vt:Value}
theorem Out.step (h:Out w3 wr o M vs vt)(hb:Below wr.heap.size wr w'):Out w3 w' o M vs vt:=
 ⟨(hb.block _ h.fo.lt).trans h.fo,lO h.qp hb,lO h.mZ hb,h.below.trans (hb.mono h.below.size)⟩
theorem Out.alloc (h:Out w3 wr o M vs vt)(x):Out w3 (wr.alloc x) o M vs vt:=h.step (eT _ _)
theorem Out.drew (h:Out w3 wr o M vs vt):Out w3 wr.drew o M vs vt:=h.step kE
theorem Nt {o}{x}(M:List Sg)(h:uR o x=Q):iT (M++[x]) o=iT M o++[x]/\oA (M++[x]) o=oA M o:=by
 have h2:sI o x=z:=by
  cases ht:sI o x
  ·rfl
  ·unfold uR at h;unfold sI at ht;cases h3:vR o x<;>cases h4:(rS x&&Xg o x)<;>rw[h3,h4] at h ht<;>simp at h ht
 unfold oA iT CW;rw[bF,bF];exact⟨fF,by simp[h2]⟩
theorem MO {o}{x}(M:List Sg)(h:sI o x=Q):iT (M++[x]) o=iT M o/\oA (M++[x]) o=oA M o++[Ec x]:=by
 have h2:uR o x=z:=by
  cases ht:uR o x
  ·rfl
  ·unfold sI at h;unfold uR at ht;cases h3:vR o x<;>cases h4:(rS x&&Xg o x)<;>rw[h3,h4] at h ht<;>simp at h ht
 unfold oA iT CW;rw[bF,bF];exact⟨by simp[h2],fF⟩
theorem Out.skip {x}(h:Out w3 wr o M vs vt)(hx:vR o x=Q):Out w3 wr o (M++[x]) vs vt:=by
 have h1:uR o x=z:=by unfold uR;rw[hx];rfl
 have h2:sI o x=z:=by unfold sI;rw[hx];rfl
 have e1:iT (M++[x]) o=iT M o:=by unfold iT;rw[bF];simp[h1]
 have e2:oA (M++[x]) o=oA M o:=by unfold oA CW;rw[bF];simp[h2]
 refine⟨h.fo,?_,?_,h.below⟩
 ·rw[e1];exact h.qp
 ·rw[e2];exact h.mZ
theorem Bm{O:Nat}{v}(h:w.ownsRow (O+1) T size v n xs):G O≠v.ownBlock:=by
 intro e;have:=(h.lt O e.symm).1;omega
theorem Out.ZU {x}{xk xn:Int}{au:Obj}(h:Out w3 wr o M vs vt)(hx:uR o x=Q)(hk:xk=(x.k.toNat:Nat))(hn:xn=x.n)
 (hown:w'.ownsRow (w3.heap.size+1) 133 2 vs' ((iT M o).length+1) (sO (iT M o)++[I U xk,I J xn])) (hg:(wr.alloc au).grownBy w' vs.ownBlock):
 fP w' w3.heap.size 179 (tp o vs vt)/\Out w3 (w'.setCell ⟨w3.heap.size,3,E⟩ vs') o (M++[x]) vs' vt:=by
 have h2:=h.alloc au;obtain⟨e1,e2⟩:=Nt M hx;have hb:fP w' w3.heap.size 179 (tp o vs vt):=fP.grown h2.fo hg (Bm h.qp);refine⟨hb,⟨hb.mu 3 vs',?_,?_,?_⟩⟩
 ·rw[e1,aU,De,<-hk,<-hn];exact nd hown om _ _
 ·rw[e2];exact nd (h2.mZ.kept hg (Gz h2.mZ h2.qp dc)) om _ _
 ·exact(Below.grown h2.below hg h2.below.size (λk hk=>by have:=(h2.qp.lt k hk).1;omega)).setCell (aB _) _
theorem Out.ZC {x}{au:Obj}(h:Out w3 wr o M vs vt)(hx:sI o x=Q)
 (hown:w'.ownsRow (w3.heap.size+1) 9 1 vt' ((oA M o).length+1) (tK (oA M o)++[C (fS x)])) (hg:(wr.alloc au).grownBy w' vt.ownBlock):
 fP w' w3.heap.size 179 (tp o vs vt)/\Out w3 (w'.setCell ⟨w3.heap.size,4,E⟩ vt') o (M++[x]) vs vt':=by
 have h2:=h.alloc au;obtain⟨e1,e2⟩:=MO M hx;have hb:fP w' w3.heap.size 179 (tp o vs vt):=fP.grown h2.fo hg (Bm h.mZ);refine⟨hb,⟨hb.mu 4 vt',?_,?_,?_⟩⟩
 ·rw[e1];exact nd (h2.qp.kept hg (Gz h2.qp h2.mZ dc)) om _ _
 ·have e3:tK (oA M o++[Ec x])=tK (oA M o)++[C (fS x)]:=by unfold tK;rw[cz];rfl
  rw[e2,aU,e3];exact nd hown om _ _
 ·exact(Below.grown h2.below hg h2.below.size (λk hk=>by have:=(h2.mZ.lt k hk).1;omega)).setCell (aB _) _
end
theorem Bv {F}{v}(hF:pW w v F)(hl:F.length<=1000):Calls prog 95 #[v] w (JC F w):=by
 obtain⟨i0,hi,hz0,hz1,hz2⟩:=info_parts GY;obtain⟨s0,hs,si0,si1,si2⟩:=info_parts Ex;obtain⟨A,cap,rfl,hc⟩:=hF;obtain⟨n,hn,HN⟩:=nh F.length;rw[<-hn] at hl ⊢;have HC:=H hc;clear hc hn;obtain⟨W,hW,HW⟩:=nh (w.alloc (.cells (tp E aw aw) 179));obtain⟨HBW,BR⟩:=eN (show Below w.heap.size w W by rw[hW];exact eT _ _) (show fP W w.heap.size 179 (tp E aw aw) by rw[hW];exact fP.new _ _ _);have hwW:w.heap.size<W.heap.size:=by rw[hW];simp
 clear hW
 go_enter func95,ntmps95
 go_wp2_with fail
 have eW:w.alloc (.cells #[I U 0,av,.bool z,aw,aw] 179)=W:=HW.symm;rw[eW];clear eW
 go_loopw [3,15] (λv i wr=>∃ k,k<=n/\i= I J (k:Nat)/\wr.ownsRow W.heap.size 133 2 v (qj (F.take k)).length (sO (qj (F.take k)))/\Below W.heap.size W wr) (λ_ i _=>n - (intOf i).toNat)
 case atStart=>exact⟨0,aD _,D,ab6 _ _ _ _,aa4 _ _⟩
 case round=>
  obtain⟨k,hk,rfl,hown,hbw⟩:=hrel;have hpl:=IA (F.take k);have hpl2:(F.take k).length<=k:=by rw[aK];omega
  by_cases hlk:k<n
  ·have hlk':k<F.length:=by rw[<-HN.out];exact hlk
   obtain⟨g,off,rfl,hg,hcl⟩:=HC abu;have hps:=N7 F k hlk';have c0:wr.cell? ⟨g,off+k,E⟩=G (C F[k]):=(kz HBW hbw |>.cell aaC).trans (hcl k hlk');clear hcl;generalize F[k]=s at c0 hps;have OF:=WE s;unfold YI at OF;by_cases hb:Cx s.data.toList=Q
   ·rw[aA hb] at hps;rw[hb] at OF;clear hb;unfold Io at OF;generalize Kt s.data.toList=x at OF hps;replace OF:=H OF;have HS:=H hps;clear hps
    go_wp2_with (first | (go_at_call 151;refine qx (OF _) λw1 hb1=>?_;have hown1:=lO hown hb1;have hsz1:=hb1.size) | (at_builtin;refine wpList_append_own _ D _ _ 177 D W.heap.size 133 i0 (.agg #[I U 0,av]) 2 16 underlying177 hi hz0 hz1 hz2 D dc _ _ _ D ((hown1.alloc _).alloc _) ⟨w1.heap.size+1,0,E⟩ 1 1 [I U (x.k.toNat:Int),I J x.n] D D (wz (w1.alloc _) _ _ _ _ sm) (Wz x) eQ om (by have:=hbw.size;simp;omega) ?_;intro v' w' hown' hgrow _;have hbw':=Ck hbw hb1 hown hgrow;clear hgrow))
    go_roundw
    case rel=>exact⟨k+1,om,eB,by rw[HS.out,aU,De];exact hown',hbw'⟩
    case measure=>simp[intOf];omega
   ·rw[az hb,aY] at hps;rw[show Cx s.data.toList=z by simpa using hb] at OF;clear hb;unfold Io at OF;generalize Kt s.data.toList=x at OF;replace OF:=H OF;have HS:=H hps;clear hps
    go_wp2_with (go_at_call 151;refine qx (OF _) λw1 hb1=>?_;have hown1:=lO hown hb1)
    go_roundw
    case rel=>exact⟨k+1,om,eB,by rw[HS.out];exact hown1.alloc _,(kz hbw hb1).alloc (by have:=hbw.size;have:=hb1.size;omega) _⟩
    case measure=>simp[intOf];omega
  ·obtain rfl:k=n:=om;rw[show F.take k=F by rw[HN.out,aT]] at hown;have hpF:(qj F).length<=1000:=by have:=IA F;have:=HN.out;omega
   clear hpl hpl2;obtain⟨L,hL,HL⟩:=nh (uq (qj F));obtain⟨m,hm,HM⟩:=nh L.length;clear hL hm
   go_wp2_with (first | (go_at_call 152;refine(Ni hown hpF).mono ?_;rintro e w2 ⟨rfl,hs2,hg2⟩) | (go_at_call 154;refine(Fj hs2 hpF).mono ?_;rw[<-HL.out];rintro e w3 ⟨v3,rfl,ho3,hg3⟩;obtain⟨A3,c3,rfl,hc3⟩:=oy.own ho3;rw[<-HM.out];have HC3:=H hc3;clear hc3))
   have HB3:=H (show Below W.heap.size W w3 from Below.grown (Below.grown hbw hg2 hbw.size (λk hk=>(hown.lt k hk).1)) hg3 (aH hbw.size hg2.size) (λk hk=>(hs2.lt k hk).1));have hLn:m<=1000:=by
    have h1:(uq (qj F)).length<=(jQ (qj F)).length:=by
     rw[<-MJ];unfold JK Go.Lib.compactUpTo;rw[bg];exact aH (bp _ _) sm
    rw[HM.out,HL.out];rw[pA] at h1;omega
   obtain⟨HO3,HOK⟩:=eN ho3 (show ∀ x∈L,sw x=Q from λx hx=>by rw[HL.out,OS] at hx;exact Wp hx);clear hown hbw
   go_loopw [36] (λi wr=>∃ k,k<=m/\i= I J (k:Nat)/\fP wr w3.heap.size 179 (tp (xy (L.take k)) aw aw)/\Below w3.heap.size w3 wr) (λi _=>m - (intOf i).toNat)
   case atStart=>exact⟨0,aD _,D,fP.new _ _ _,eT _ _⟩
   case round=>
    obtain⟨j,hj,rfl,hB,hb⟩:=hrel;by_cases hlj':j<m
    ·have hlj:j<L.length:=by rw[<-HM.out];exact hlj'
     obtain⟨g,off,rfl,hg,hcl⟩:=HC3 (by intro h;rw[h] at hlj;simp at hlj);have hst:=Nj L j hlj;have c0:=(hb.cell aaC).trans (hcl j hlj).1;have c1:=(hb.cell aaC).trans (hcl j hlj).2;clear hcl;generalize L[j]=x at c0 c1 hst;clear hlj;have o0:wr.cell? ⟨w3.heap.size,0,E⟩=G (I U (((xy (L.take j)).getD zS).k.toNat:Nat)):=hB.cell 0;have o1:wr.cell? ⟨w3.heap.size,1,E⟩=G (I J ((xy (L.take j)).getD zS).n):=hB.cell 1;have o2:wr.cell? ⟨w3.heap.size,2,E⟩=G (.bool (xy (L.take j)).isSome):=hB.cell 2;have f0:=hB.frozen 0;have f1:=hB.frozen 1;have f2:=hB.frozen 2;generalize ((xy (L.take j)).getD zS).k.toNat=pk at o0;generalize ((xy (L.take j)).getD zS).n=pn at o1;generalize (xy (L.take j)).isSome=pb at o2;have hO1:w3.heap.size<wr.heap.size:=hB.lt;have hgr:g<wr.heap.size:=om;have HBb:=H hB;clear hB;by_cases hC:x.k.toNat=99
     ·have hsx:tp (G x) aw aw=#[I U 99,I J x.n,.bool Q,aw,aw]:=by unfold tp;simp[hC]
      rw[aA (by unfold YT;rw[hC];rfl)] at hst;rw[hC] at c0;obtain⟨HS,HX⟩:=eN hst hsx;clear hst hsx hC;generalize x.n=xn at c1 HX
      go_wp2
      go_roundw
      case rel=>exact⟨j+1,om,eB,by rw[HS.out,HX.out];exact(((HBb.mu 0 _).mu 1 _).mu 2 _).alloc _,(((hb.setCell (aB _) _).setCell (aB _) _).setCell (aB _) _).alloc eC _⟩
      case measure=>simp[intOf];omega
     ·rw[az (by unfold YT;simpa using hC)] at hst;have HS:=H hst;clear hst;have e1:((x.k.toNat:Int)==99)=z:=by rw[aX];omega
      have d1:decide (x.k.toNat=99)=z:=aC hC
      go_wp2
      go_roundw
      case rel=>exact⟨j+1,om,eB,by rw[HS.out];exact HBb.alloc _,hb.alloc om _⟩
      case measure=>simp[intOf];omega
    ·obtain rfl:m=j:=om;rw[show L.take m=L by rw[HM.out,aT]] at hB
     go_wp2_with fail
     have HB3o:=H hB;obtain⟨o,ho,HOo⟩:=nh (xy L);rw[<-ho] at hB;clear ho
     go_loopw [49] (λi wr=>∃ k vs vt,k<=m/\i= I J (k:Nat)/\Out w3 wr o (L.take k) vs vt) (λi _=>m - (intOf i).toNat)
     case atStart=>exact⟨0,aw,aw,aD _,D,⟨hB,ab6 _ _ _ _,ab6 _ _ _ _,hb⟩⟩
     case round=>
      obtain⟨j,vs,vt,hj,rfl,hO⟩:=hrel;by_cases hlj':j<m
      ·have hlj:j<L.length:=by rw[<-HM.out];exact hlj'
       obtain⟨g,off,rfl,hg,hcl⟩:=HC3 (by intro h;rw[h] at hlj;simp at hlj);have ht:L.take (j+1)=L.take j++[L[j]]:=aL hlj;have c0:=(hO.below.cell aaC).trans (hcl j hlj).1;have c1:=(hO.below.cell aaC).trans (hcl j hlj).2;clear hcl;have SG:=Df L[j];have NM:=ji L[j];have hok:sw L[j]=Q:=HOK _ (aV hlj);generalize L[j]=x at c0 c1 ht SG NM hok;clear hlj;unfold Io at SG NM;obtain⟨xk,hxk⟩:∃ xk:Int,xk=(x.k.toNat:Nat):=⟨_,D⟩;obtain⟨xn,hxn⟩:∃ xn:Int,xn=x.n:=⟨_,D⟩;have hx64:In64 x.n:=by have:=jJ.1 hok;unfold In64;omega
       replace NM:=λw=>NM w hx64;rw[<-hxk,<-hxn] at SG NM;rw[<-hxk] at c0;rw[<-hxn] at c1;obtain⟨HXK,HXN,HT⟩:=gi hxk hxn ht;replace NM:=H NM;clear hxk hxn ht hok;obtain⟨va,vc,rfl⟩:=im hO.qp;obtain⟨ta,tc,rfl⟩:=im hO.mZ;have hgr:g<wr.heap.size:=by have:=hO.below.size;omega
       have hO1:=hO.fo.lt;have HO:=H hO;clear hO;cases o with
       | none=>
        have hln:(iT (L.take j) E).length<=1000:=aH (bp _ _) fO;have htn':(oA (L.take j) E).length<=1000:=acg (L.take j) E fO;have o0:wr.cell? ⟨w3.heap.size,0,E⟩=G (I U 0):=HO.fo.cell 0;have o1:wr.cell? ⟨w3.heap.size,1,E⟩=G av:=HO.fo.cell 1;have o2:wr.cell? ⟨w3.heap.size,2,E⟩=G (.bool z):=HO.fo.cell 2;have o3:wr.cell? ⟨w3.heap.size,3,E⟩=G (Z va (iT (L.take j) E).length vc):=HO.fo.cell 3;have o4:wr.cell? ⟨w3.heap.size,4,E⟩=G (Z ta (oA (L.take j) E).length tc):=HO.fo.cell 4;by_cases hSR:rS x=Q
        ·have HF:=H (J7 hSR);rw[hSR] at SG;replace SG:=H SG;clear hSR
         go_wp2_with (first | (go_at_call 155;refine qx (SG _) λw1 hb1=>?_;have hO1:=(HO.alloc (.cells #[I U xk,I J xn] 133)).step hb1;have b0:w1.cell? ⟨wr.heap.size,0,E⟩=G (I U xk):=(hb1.cell sm).trans sm;have b1:w1.cell? ⟨wr.heap.size,1,E⟩=G (I J xn):=(hb1.cell sm).trans sm;have po0:w1.cell? ⟨w3.heap.size,0,E⟩=G (I U 0):=hO1.fo.cell 0;have po1:w1.cell? ⟨w3.heap.size,1,E⟩=G av:=hO1.fo.cell 1;have po2:w1.cell? ⟨w3.heap.size,2,E⟩=G (.bool z):=hO1.fo.cell 2;have po3:w1.cell? ⟨w3.heap.size,3,E⟩=G (Z va (iT (L.take j) E).length vc):=hO1.fo.cell 3;have po4:w1.cell? ⟨w3.heap.size,4,E⟩=G (Z ta (oA (L.take j) E).length tc):=hO1.fo.cell 4;have hs1:=hb1.size;have HO1:=H hO1;clear hO1) | (at_builtin;refine wpList_append_own _ D _ _ 177 D (w3.heap.size+1) 133 i0 (.agg #[I U 0,av]) 2 16 underlying177 hi hz0 hz1 hz2 D dc _ _ _ D (HO1.qp.alloc _) ⟨w1.heap.size,0,E⟩ 1 1 [I U xk,I J xn] D D (wz w1 _ _ _ _ D) (GA xk xn) eQ om abn ?_;intro v' w' hown' hgrow _;obtain⟨va',vc',rfl⟩:=im hown';have hO2:=HO1.ZU HF HXK HXN hown' hgrow;have q3:w'.cell? ⟨w3.heap.size,3,E⟩=G (Z va (iT (L.take j) E).length vc):=hO2.1.cell 3;have g3:=hO2.1.frozen 3;have HO2:=H hO2;clear hO2 hown' hgrow))
         exact lQ
        ·have hSR':rS x=z:=by simpa using hSR
         have HF:=H (JP hSR');rw[hSR'] at SG;replace SG:=H SG;clear hSR hSR'
         go_wp2_with (go_at_call 155;refine qx (SG _) λw1 hb1=>?_;have hO1:=(HO.alloc (.cells #[I U xk,I J xn] 133)).step hb1;have b0:w1.cell? ⟨wr.heap.size,0,E⟩=G (I U xk):=(hb1.cell sm).trans sm;have b1:w1.cell? ⟨wr.heap.size,1,E⟩=G (I J xn):=(hb1.cell sm).trans sm;have po0:w1.cell? ⟨w3.heap.size,0,E⟩=G (I U 0):=hO1.fo.cell 0;have po1:w1.cell? ⟨w3.heap.size,1,E⟩=G av:=hO1.fo.cell 1;have po2:w1.cell? ⟨w3.heap.size,2,E⟩=G (.bool z):=hO1.fo.cell 2;have po3:w1.cell? ⟨w3.heap.size,3,E⟩=G (Z va (iT (L.take j) E).length vc):=hO1.fo.cell 3;have po4:w1.cell? ⟨w3.heap.size,4,E⟩=G (Z ta (oA (L.take j) E).length tc):=hO1.fo.cell 4;have hBX:fP w1 wr.heap.size 133 #[I U xk,I J xn]:=ma (fP.new _ _ _) hb1;have hs1:=hb1.size;have HO1:=H hO1;clear hO1)
         refine ab8 ?_;refine ab3 (S:=λw'=>fP w' wr.heap.size 133 #[I U xk,I J xn]) kr hBX (λhS=>?_);obtain⟨wd,hwd⟩:=fe w1.drew;have HD:=H (show Out w3 wd E (L.take j) _ _ by rw[hwd];exact HO1.drew);rw[<-hwd] at hS ⊢;clear hwd;refine tH 0 hS ?_;refine aa5 (i:=2) (v:=?_) D kr kr kr (λ_ _ _ h=>h) (aG ⟨by rfl,?_⟩) hS ?_;rotate_left
         ·intro wx hSx;have x0:wx.cell? ⟨wr.heap.size,0,E⟩=G (I U xk):=fP.cell hSx 0;have x1:wx.cell? ⟨wr.heap.size,1,E⟩=G (I J xn):=fP.cell hSx 1;go_simp
          try with_reducible rfl
         simp only[Act.put,gz,gy];refine Wj 1 3 (λK hK=>?_) λK hK=>?_
         ·skip;simp only[gz];have p4:wd.cell? ⟨w3.heap.size,4,E⟩=G (Z ta (oA (L.take j) E).length tc):=HD.fo.cell 4;go_simp;refine hK _ _ hS (λhS0=>?_);refine vO 3 λK hK=>?_;simp only[gz];go_simp;refine qx (NM _) λw2 hb2=>?_;have HE:=H (HD.step hb2);refine hK _ _ (ma hS0 hb2) (λhS1=>?_);refine vO 4 λK hK=>?_;simp only[gz];go_simp;refine hK _ _ (fP.alloc hS1 _) (λhS2=>?_);refine vO 5 λK hK=>?_;simp only[gz];refine wp_append_own _ _ _ 48 D (w3.heap.size+1) 9 s0 ax 1 16 underlying48 hs si0 si1 si2 D dc _ _ _ D (HE.mZ.alloc _) ⟨w2.heap.size,0,E⟩ 1 1 [C (fS x)] D D (wA w2 _ _ _ D) (wy _) eQ om (by have:=HE.fo.lt;simp;omega) ?_;intro v' w' hown' hgrow _;obtain⟨ta',tc',rfl⟩:=im hown';have hO2:=HE.ZC HF hown' hgrow;have q4:w'.cell? ⟨w3.heap.size,4,E⟩=G (Z ta (oA (L.take j) E).length tc):=hO2.1.cell 4;have g4:=hO2.1.frozen 4;have HO2:=H hO2;refine hK _ _ (fP.grown hS2 hgrow (vr hS2 (HE.mZ.alloc _) dc)) (λhS3=>?_);clear hO2 hown' hgrow;refine tH 6 hS3 ?_;refine vO 7 λK hK=>?_;simp only[gz,Act.put];go_simp;refine hK _ _ (fP.fw hS3 eC _) (λhS4=>?_);refine Vj ?_
          go_wp2
          exact lQ
         ·skip;simp only[gz];go_simp;refine qx (NM _) λw2 hb2=>?_;have HE:=H (HD.step hb2);refine hK _ _ (ma hS hb2) (λhS0=>?_);refine Wj 1 4 (λK hK=>?_) λK hK=>?_
          all_goals
           skip;simp only[gz]
          have p4:w2.cell? ⟨w3.heap.size,4,E⟩=G (Z ta (oA (L.take j) E).length tc):=HE.fo.cell 4;rotate_left;rotate_left
          all_goals
           go_simp
          refine hK _ _ hS0 (λhS2b=>?_);rotate_left
          focus
           refine hK _ _ (fP.alloc hS0 _) (λhS1=>?_);refine vO 1 λK hK=>?_;simp only[gz];have p4:(w2.alloc (.cells #[C (fS x)] 9)).cell? ⟨w3.heap.size,4,E⟩=G (Z ta (oA (L.take j) E).length tc):=(HE.alloc _).fo.cell 4;go_simp;refine hK _ _ hS1 (λhS3b=>?_)
          rotate_left
          all_goals
           clear hK p4
          focus
           refine vO 4 λK hK=>?_;simp only[gz];go_simp;refine hK _ _ (fP.alloc hS2b _) (λhS1=>?_)
          rotate_left;rotate_left
          all_goals
           refine vO 5 λK hK=>?_;simp only[gz];refine wp_append_own _ _ _ 48 D (w3.heap.size+1) 9 s0 ax 1 16 underlying48 hs si0 si1 si2 D dc _ _ _ D (HE.mZ.alloc _) ⟨w2.heap.size,0,E⟩ 1 1 [C (fS x)] D D (wA w2 _ _ _ D) (wy _) eQ om (by have:=HE.fo.lt;simp;omega) ?_;intro v' w' hown' hgrow _;obtain⟨ta',tc',rfl⟩:=im hown';have hO2:=HE.ZC HF hown' hgrow;have q4:w'.cell? ⟨w3.heap.size,4,E⟩=G (Z ta (oA (L.take j) E).length tc):=hO2.1.cell 4;have g4:=hO2.1.frozen 4;have HO2:=H hO2
          refine hK _ _ (fP.grown hS1 hgrow (vr hS1 (HE.mZ.alloc _) dc)) (λhS2=>?_);rotate_left;refine hK _ _ (fP.grown hS3b hgrow (vr hS3b (HE.mZ.alloc _) dc)) (λhS2=>?_);rotate_left
          all_goals
           clear hO2 hown' hgrow;refine tH 6 hS2 ?_;refine vO 7 λK hK=>?_;simp only[gz,Act.put];go_simp;refine hK _ _ (fP.fw hS2 eC _) (λhS3=>?_);refine Vj ?_
           go_wp2
           exact lQ
       | some t=>
        have hln:(iT (L.take j) (G t)).length<=1000:=aH (bp _ _) fO;have htn':(oA (L.take j) (G t)).length<=1000:=acg (L.take j) (G t) fO;obtain⟨tk,htk⟩:∃ tk:Int,tk=(t.k.toNat:Nat):=⟨_,D⟩;obtain⟨tn,htn⟩:∃ tn:Int,tn=t.n:=⟨_,D⟩;obtain⟨HTK,HTN⟩:=eN htk htn;clear htk htn;have o0:wr.cell? ⟨w3.heap.size,0,E⟩=G (I U tk):=(by rw[HTK.out];exact HO.fo.cell 0);have o1:wr.cell? ⟨w3.heap.size,1,E⟩=G (I J tn):=(by rw[HTN.out];exact HO.fo.cell 1);have o2:wr.cell? ⟨w3.heap.size,2,E⟩=G (.bool Q):=HO.fo.cell 2;have o3:wr.cell? ⟨w3.heap.size,3,E⟩=G (Z va (iT (L.take j) (G t)).length vc):=HO.fo.cell 3;have o4:wr.cell? ⟨w3.heap.size,4,E⟩=G (Z ta (oA (L.take j) (G t)).length tc):=HO.fo.cell 4;by_cases hxt:x=t
        ·have HF:=H (show vR (G t) x=Q by unfold vR;rw[hxt];exact Qk t);have e1:xk=tk:=by rw[HXK.out,HTK.out,hxt]
         have e2:xn=tn:=by rw[HXN.out,HTN.out,hxt]
         clear hxt;subst e1 e2
         go_wp2
         go_roundw
         case rel=>exact⟨j+1,_,_,om,eB,by rw[HT.out];exact(HO.alloc _).skip HF⟩
         case measure=>simp[intOf];omega
        ·have HNE:=H (show T7 x t=z from Xm.2 hxt);have hne:¬xk=tk∨¬xn=tn:=by
          by_cases e:xk=tk
          ·right;intro e2;rw[HXK.out,HTK.out] at e;rw[HXN.out,HTN.out] at e2;exact hxt (uQ (cE.1 om) e2)
          ·left;exact e
         have HN2:=H hne;clear hne hxt;by_cases e1:xk=tk;have tg0:Tg 0:=⟨⟩;rotate_left;have tg0:Tg 1:=⟨⟩;rotate_left;have e2:¬xn=tn:=HN2.resolve_left (λh=>h e1);subst e1;rotate_left;skip;rotate_left
         all_goals
          by_cases hSR:rS x=Q
          ·rw[hSR] at SG;replace SG:=H SG;by_cases hge:tn<=xn
           ·have HF:=H (J6 HNE hSR (by rw[<-HTN.out,<-HXN.out];exact hge));clear hSR
            first
             | have _:Tg 1:=tg0
               go_wp2_with (first | (go_at_call 155;refine qx (SG _) λw1 hb1=>?_;have hO1:=(HO.alloc (.cells #[I U xk,I J xn] 133)).step hb1;have b0:w1.cell? ⟨wr.heap.size,0,E⟩=G (I U xk):=(hb1.cell sm).trans sm;have b1:w1.cell? ⟨wr.heap.size,1,E⟩=G (I J xn):=(hb1.cell sm).trans sm;have po0:w1.cell? ⟨w3.heap.size,0,E⟩=G (I U tk):=(by rw[HTK.out];exact hO1.fo.cell 0);have po1:w1.cell? ⟨w3.heap.size,1,E⟩=G (I J tn):=(by rw[HTN.out];exact hO1.fo.cell 1);have po2:w1.cell? ⟨w3.heap.size,2,E⟩=G (.bool Q):=hO1.fo.cell 2;have po3:w1.cell? ⟨w3.heap.size,3,E⟩=G (Z va (iT (L.take j) (G t)).length vc):=hO1.fo.cell 3;have po4:w1.cell? ⟨w3.heap.size,4,E⟩=G (Z ta (oA (L.take j) (G t)).length tc):=hO1.fo.cell 4;have hs1:=hb1.size;have HO1:=H hO1;clear hO1) | (at_builtin;refine wpList_append_own _ D _ _ 177 D (w3.heap.size+1) 133 i0 (.agg #[I U 0,av]) 2 16 underlying177 hi hz0 hz1 hz2 D dc _ _ _ D (HO1.qp.alloc _) ⟨w1.heap.size,0,E⟩ 1 1 [I U xk,I J xn] D D (wz w1 _ _ _ _ D) (GA xk xn) eQ om abn ?_;intro v' w' hown' hgrow _;obtain⟨va',vc',rfl⟩:=im hown';have hO2:=HO1.ZU HF HXK HXN hown' hgrow;have q3:w'.cell? ⟨w3.heap.size,3,E⟩=G (Z va (iT (L.take j) (G t)).length vc):=hO2.1.cell 3;have g3:=hO2.1.frozen 3;have HO2:=H hO2;clear hO2 hown' hgrow))
             | go_wp2_with (first | (go_at_call 155;refine qx (SG _) λw1 hb1=>?_;have hO1:=(HO.alloc (.cells #[I U xk,I J xn] 133)).step hb1;have b0:w1.cell? ⟨wr.heap.size,0,E⟩=G (I U xk):=(hb1.cell sm).trans sm;have b1:w1.cell? ⟨wr.heap.size,1,E⟩=G (I J xn):=(hb1.cell sm).trans sm;have po0:w1.cell? ⟨w3.heap.size,0,E⟩=G (I U xk):=(by rw[HTK.out];exact hO1.fo.cell 0);have po1:w1.cell? ⟨w3.heap.size,1,E⟩=G (I J tn):=(by rw[HTN.out];exact hO1.fo.cell 1);have po2:w1.cell? ⟨w3.heap.size,2,E⟩=G (.bool Q):=hO1.fo.cell 2;have po3:w1.cell? ⟨w3.heap.size,3,E⟩=G (Z va (iT (L.take j) (G t)).length vc):=hO1.fo.cell 3;have po4:w1.cell? ⟨w3.heap.size,4,E⟩=G (Z ta (oA (L.take j) (G t)).length tc):=hO1.fo.cell 4;have hs1:=hb1.size;have HO1:=H hO1;clear hO1) | (at_builtin;refine wpList_append_own _ D _ _ 177 D (w3.heap.size+1) 133 i0 (.agg #[I U 0,av]) 2 16 underlying177 hi hz0 hz1 hz2 D dc _ _ _ D (HO1.qp.alloc _) ⟨w1.heap.size,0,E⟩ 1 1 [I U xk,I J xn] D D (wz w1 _ _ _ _ D) (GA xk xn) eQ om abn ?_;intro v' w' hown' hgrow _;obtain⟨va',vc',rfl⟩:=im hown';have hO2:=HO1.ZU HF HXK HXN hown' hgrow;have q3:w'.cell? ⟨w3.heap.size,3,E⟩=G (Z va (iT (L.take j) (G t)).length vc):=hO2.1.cell 3;have g3:=hO2.1.frozen 3;have HO2:=H hO2;clear hO2 hown' hgrow))
            exact lQ
           ·have HF:=H (Rx HNE (by rw[<-HTN.out,<-HXN.out];exact hge));clear hSR;exact rD
          ·have hSR':rS x=z:=by simpa using hSR
           have HF:=H (JM HNE hSR');rw[hSR'] at SG;replace SG:=H SG;clear hSR hSR';exact rD
      ·obtain rfl:m=j:=om;rw[show L.take m=L by rw[HM.out,aT]] at hO;obtain⟨va,vc,rfl⟩:=im hO.qp;obtain⟨ta,tc,rfl⟩:=im hO.mZ;have o4:wr.cell? ⟨w3.heap.size,4,E⟩=G (Z ta (oA L o).length tc):=hO.fo.cell 4;have HO:=H hO;have htl:(oA L o).length<=1000:=acg L o (by rw[<-HM.out];exact hLn);have hw3:W.heap.size<=w3.heap.size:=HB3.size;obtain⟨BR4,HBw⟩:=eN (ma (ma BR HB3) hO.below) (kz HBW HB3 |>.trans (hO.below.mono om));clear hO
       go_wp2_with (go_at_call 149;refine(J1 HO.mZ htl).mono ?_;rintro e w5 ⟨rfl,ht5,hg5⟩;have BO5:=fP.grown HO.fo hg5 (Bm HO.mZ);have BR5:=fP.grown BR4 hg5 (λe=>by have:=(HO.mZ.lt _ e.symm).1;omega);have o0:w5.cell? ⟨w3.heap.size,0,E⟩=G (I U ((o.getD zS).k.toNat:Nat)):=BO5.cell 0;have o1:w5.cell? ⟨w3.heap.size,1,E⟩=G (I J (o.getD zS).n):=BO5.cell 1;have o2:w5.cell? ⟨w3.heap.size,2,E⟩=G (.bool o.isSome):=BO5.cell 2;have o3:w5.cell? ⟨w3.heap.size,3,E⟩=G (Z va (iT L o).length vc):=BO5.cell 3;have o4:w5.cell? ⟨w3.heap.size,4,E⟩=G (Z ta (oA L o).length tc):=BO5.cell 4;have r0:w5.cell? ⟨w.heap.size,0,E⟩=G (I U 0):=BR5.cell 0;have r1:w5.cell? ⟨w.heap.size,1,E⟩=G av:=BR5.cell 1;have r2:w5.cell? ⟨w.heap.size,2,E⟩=G (.bool z):=BR5.cell 2;have r3:w5.cell? ⟨w.heap.size,3,E⟩=G aw:=BR5.cell 3;have r4:w5.cell? ⟨w.heap.size,4,E⟩=G aw:=BR5.cell 4;have f0:=BR5.frozen 0;have f1:=BR5.frozen 1;have f2:=BR5.frozen 2;have f3:=BR5.frozen 3;have f4:=BR5.frozen 4;obtain⟨HR5,HT5,HG5⟩:=gi BR5 ht5 hg5;clear BO5 BR5 ht5 hg5)
       refine aa1 (Bc (p:=2) D _ _ _ _ _ _ _ D (PO HR5 o _ _) underlying179 D Pl) D ?_;have hb5:Below w.heap.size w w5:=Below.grown HBw HG5 HBw.size (λk hk=>by have:=(HO.mZ.lt k hk).1;omega);have hs5:=HO.qp.kept HG5 (Gz HO.qp HO.mZ dc);have hrl:w.heap.size<w3.heap.size+1:=om;unfold JC;rw[<-HL.out,<-HOo.out];refine⟨_,_,D,zJ (DX hs5 hrl _ _ _ _ _) om,zJ (DX HT5 hrl _ _ _ _ _) om,Hk hb5 (aB _) _ _ _ _ _⟩
def IL (n:Int)(L:List Sg):Int:=L.foldl (λn s=>max n (s.n+1)) n
theorem OJ (n:Int)(L:List Sg)(s:Sg):IL n (L++[s])=max (IL n L) (s.n+1):=by unfold IL;rw[cX];rfl
theorem Ed (L:List Sg)(k:Nat)(h:k<L.length):IL 0 (L.take (k+1))=max (IL 0 (L.take k)) (L[k].n+1):=by
 rw[aL h,OJ]
theorem zM {L:List Sg}(h:∀ x∈L,sw x=Q):∀ k,0<=IL 0 (L.take k)/\IL 0 (L.take k)<=4294967296
 | 0=>by simp[IL]
 | k+1=>by
   have ih:=zM h k;by_cases hk:k<L.length
   ·rw[Ed L k hk];have:=(jJ.1 (h _ (aV hk))).2;omega
   ·rw[bz om];rw[bz om] at ih;exact ih
theorem qF {o:Option Sg}{B:Option Addr}{nt ct:Nat}{L}(hs:oy w vs L)(hok:∀ x∈L,sw x=Q)(hl:L.length<=1000):
 Calls prog 98 #[.agg (tp o vs (Z B nt ct))] w λe w'=>e= .returned (I J (Tj o.isSome (o.getD zS).n L))/\Below w.heap.size w w':=by
 obtain⟨A,cap,rfl,hc⟩:=hs;obtain⟨m,hm,HM⟩:=nh L.length;rw[<-hm] at hl ⊢;obtain⟨HC,HOK⟩:=eN hc hok;clear hc hok;unfold tp;obtain⟨b,hb⟩:=fe o.isSome;obtain⟨sn,hsn⟩:=fe ((o.getD zS).n);obtain⟨sk,hsk⟩:=fe ((o.getD zS).k.toNat);rw[<-hb,<-hsn,<-hsk];clear hb hsn hsk;obtain⟨W,hW,HW⟩:=nh (w.alloc (.cells #[I U sk,I J sn,.bool b,Z A m cap,Z B nt ct] 179));have HBW:=H (show Below w.heap.size w W by rw[hW];exact eT _ _);have BB:fP W w.heap.size 179 #[I U sk,I J sn,.bool b,Z A m cap,Z B nt ct]:=by rw[hW];exact fP.new _ _ _
 have b1:W.cell? ⟨w.heap.size,1,E⟩=G (I J sn):=BB.cell 1;have b2:W.cell? ⟨w.heap.size,2,E⟩=G (.bool b):=BB.cell 2;have b3:W.cell? ⟨w.heap.size,3,E⟩=G (Z A m cap):=BB.cell 3;clear hW hm;cases b with
 | false=>
  have HE:=H (show Tj z sn L=IL 0 L by unfold Tj IL;rw[az sm]);exact rJ
 | true=>
  by_cases h0:m=0
  ·have hL:L=[]:=aa6.1 (by rw[<-HM.out];exact h0);have HE:=H (show Tj Q sn L=sn by unfold Tj;rw[aA ⟨D,hL⟩,hL];rfl);subst h0;clear hL
   go_enter func98,ntmps98
   go_wp2_with fail
   rw[<-HW.out]
   go_wp2_with fail
   go_loopw [3,20] (λx i wr=>i= I J 0/\x= I J sn/\Below W.heap.size W wr) (λ_ _ _=>0)
   case atStart=>exact⟨D,D,aa4 _ _⟩
   case round=>
    obtain⟨rfl,rfl,hb⟩:=hrel
    go_wp2
    go_ret;exact⟨by rw[HE.out];rfl,kz HBW hb⟩
  ·have hL:L≠[]:=λh=>h0 (by rw[HM.out,h];rfl);have HE:=H (show Tj Q sn L=IL 0 L by unfold Tj IL;rw[az (λh=>hL h.2)]);clear hL;have e0:((m:Int)==0)=z:=by rw[aX];omega
   exact rJ
