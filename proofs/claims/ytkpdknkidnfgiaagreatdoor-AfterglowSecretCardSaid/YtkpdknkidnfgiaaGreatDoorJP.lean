/- Lemmas for AfterglowSecret: what functions of the program return; no condition. -/
import Derived.Test.YtkpdknkidnfgiaaGreatDoorJO
import Derived.Test.YtkpdknkidnfgiaaGreatDoorQC
set_option maxHeartbeats 0
set_option maxRecDepth 100000
set_option linter.unusedVariables false
open Go.Value renaming int->I,string->C,slice->Z
open Go.IntKind renaming i64->J,u8->U
open Option renaming none->E,some->G
open Bool renaming true->Q,false->z
open Go.Lib renaming hid->H
open Go.Proofs.Tryz
namespace Go.Proofs.YtkpdknkidnfgiaaGreatDoor
theorem rz{p:Prop}(h:p:=by
 have ej:j=n:=om;have j1:¬(j:Int)<(n:Int):=om;rw[ej,HN.out,aT,<-MT.out] at ho;have HO3:=H ho;have hz3:=HZ2.out;rw[ej,HN.out,aT,<-MT.out] at hz3;have HZ3:=H hz3;have HB3:=H hb;clear ho
 go_wp2_with fail
 exact⟨⟨k+1,hlt,by go_num,HO3,HZ3,HB3⟩,by simp[intOf];omega⟩):p:=h
theorem abH{p:Prop}(h:p:=by
 go_wp2_with fail
 exact⟨⟨k+1,hlt,by go_num,by rw[PT2.out];exact HO2,HB2⟩,by simp[intOf];omega⟩):p:=h
theorem nM{p:Prop}(h:p:=by
 go_wp2_with ((go_at_call 193;refine(NN _).mono ?_;rintro e w6 ⟨rfl,hb6⟩))
 exact⟨⟨k+1,hlt,by go_num,by rw[LT2.out],by rw[LT2.out],HB2.ca hb6⟩,by simp[intOf];omega⟩):p:=h
theorem rl{p:Prop}(h:p:=by
 go_wp2_with fail
 go_ret;exact⟨_,D,by rw[HG2.out];exact fa ho9 (aH HBV (aB _)),λai hU hUb=>(hUb.ca HB).ca hL⟩):p:=h
theorem rM{p:Prop}(h:p:=by
 intro v9 w9 ho9 hb9 _;have hS5:=hb9 V D (hS4);have hT6:=hS5;have hS6:=hT6;refine kq hK ?_;refine qd 17 ?_;refine iU ?_;have hL:=hS6;exact rl):p:=h
theorem nP{p:Prop}(h:p:=by
 go_ret;exact⟨_,D,by rw[<-FIN.out];exact ho7.iD,HB.ca (hb7 V D H6)⟩):p:=h
theorem rF{p:Prop}(h:p:=by
 have SU:=H (λW (hW:Bl w1 W)=>Rw.VS (f:=eP.cs) (λ_=>rfl) j0 (HO.bl hW) HKL);rw[<-HN.out] at SU;by_cases hcK:c2'=K
 focus
  rw[aA hcK] at SU;have hmK:n=K:=om;subst hcK;subst hmK;simp only[cr] at SU HDL
  go_wp2_with (at_builtin;refine iu (f:=eP.cs) (M:=O.drop _) mq D _ _ D w1.heap.size D HO6 D (SU _ H6) HDL.out.1 HDL.out.2 H6.size ?_;intro v7 w7 ho7 hb7)
 rotate_left
 focus
  rw[az hcK] at SU
  go_wp2_with (at_builtin;refine iu (f:=eP.cs) (M:=O.drop K) mq D _ _ D w1.heap.size D HO6 D (SU _ H6) HDL.out.1 HDL.out.2 H6.size ?_;intro v7 w7 ho7 hb7)
 rotate_left
 all_goals
  go_wp2_with fail
  exact⟨⟨k+1,hlt,by go_num,by rw[ST.out,<-FIN.out];exact ho7.iD,HBk.ca (hb7 w1 D H6)⟩,by simp[intOf];omega⟩):p:=h
theorem nT{p:Prop}(h:p:=by
 go_wp2_with fail
 go_round
 case rel=>exact⟨j+1,hjl,by go_num,HQ,H5⟩
 case measure=>simp[intOf];omega):p:=h
theorem qV{p:Prop}(h:p:=by
 have SU:=H (λW (hW:Bl V2 W)=>Rw.VS (f:=Sub.cs) (λ_=>rfl) sub_one (HR.bl hW) HKL);rw[<-HM.out] at SU;by_cases hcK:cap=K
 ·rw[aA hcK] at SU;have hmK:m=K:=om;subst hcK;subst hmK;simp only[cr] at SU HDL
  go_wp2_with (at_builtin;refine iu (f:=Sub.cs) (M:=L.drop _) oQ D _ _ D V2.heap.size D HO6 D (SU _ H6) HDL.out.1 HDL.out.2 H6.size ?_;intro v7 w7 ho7 hb7)
  go_ret2
  exact⟨HB2.ca (hb7 V2 D H6),.inr ⟨HF,_,D,by rw[<-FIN.out];exact ho7.iD⟩⟩
 ·rw[az hcK] at SU
  go_wp2_with (at_builtin;refine iu (f:=Sub.cs) (M:=L.drop K) oQ D _ _ D V2.heap.size D HO6 D (SU _ H6) HDL.out.1 HDL.out.2 H6.size ?_;intro v7 w7 ho7 hb7)
  go_ret2
  exact⟨HB2.ca (hb7 V2 D H6),.inr ⟨HF,_,D,by rw[<-FIN.out];exact ho7.iD⟩⟩):p:=h
theorem qR{p:Prop}(h:p:=by
 go_upto_region 1 with fail
 rw[<-hV,<-hX];clear hV hX;have p0:=x0 V Bl.eH;have p1:=x1 V Bl.eH
 go_wp2_with ((go_at_call 106;refine(FO _ HB).mono ?_;rintro e w5 ⟨rfl,hb5⟩))
 go_ret2
 exact⟨HB.ca hb5,.inl ⟨HF,_,dc,D⟩⟩):p:=h
theorem ry{p:Prop}(h:p:=by
 have SU:=H (λW (hW:Bl V W)=>Rw.VS (f:=fl.cs) (λ_=>rfl) kL (HR.bl hW) HKL);rw[<-HM.out] at SU;by_cases hcK:cap=K
 ·rw[aA hcK] at SU;have hmK:m=K:=om;subst hcK;subst hmK;simp only[cr] at SU HDL
  go_wp2_with (at_builtin;refine iu (f:=fl.cs) (M:=L.drop _) oR D _ _ D V.heap.size D HO6 D (SU _ H6) HDL.out.1 HDL.out.2 H6.size ?_;intro v7 w7 ho7 hb7)
  go_ret2
  exact⟨HB.ca (hb7 V D H6),.inr ⟨HF,_,D,by rw[<-FIN.out];exact ho7.iD⟩⟩
 ·rw[az hcK] at SU
  go_wp2_with (at_builtin;refine iu (f:=fl.cs) (M:=L.drop K) oR D _ _ D V.heap.size D HO6 D (SU _ H6) HDL.out.1 HDL.out.2 H6.size ?_;intro v7 w7 ho7 hb7)
  go_ret2
  exact⟨HB.ca (hb7 V D H6),.inr ⟨HF,_,D,by rw[<-FIN.out];exact ho7.iD⟩⟩):p:=h
theorem abw{p:Prop}(h:p:=by
 exact⟨⟨k+1,hlt,by go_num,by rw[FN.out];exact ho7,hb7 V D (((HBk.out).al _).al _)⟩,by simp[intOf];omega⟩):p:=h
theorem nQ{p:Prop}(h:p:=by
 exact⟨⟨k+1,hlt,by go_num,_,_,D,ho7,FN,by simp;omega,hb7 w D (H5.al _)⟩,by simp[intOf];omega⟩):p:=h
theorem aby{p:Prop}(h:p:=by
 exact⟨⟨k+1,hlt,by go_num,_,_,D,ho7,FN,by simp;omega,hb7 w D (HBk.al _)⟩,by simp[intOf];omega⟩):p:=h
variable {u:ByteArray} {A K b bytes c cap g j k n q sz:Nat} {t:TypeId} {V W w:World}
namespace Tp
open Go Go.RowKit Go.Lib
open Go.Sort
open Ds.DkM (bf gj)
def Hg (x y:fm):Int:=Lib.compareInt x.a y.a
theorem YJ (x y)(w):Calls prog 252 #[.agg (fm.cs x).toArray,.agg (fm.cs y).toArray] w λe w'=>e= .returned (I J (Hg x y))/\∃ q os',w'=grow (w.drewN q) os':=by
 obtain⟨a,b⟩:=x;obtain⟨c,d⟩:=y;show Calls prog 252 #[.agg #[I J a,I J b],.agg #[I J c,I J d]] w _
 go_enter func252,ntmps252
 go_wp2_with (go_at_call 208;refine QS (Tryz.cmp_Compare_int _ _ _) ?_)
 go_ret;exact⟨D,0,#[.cells #[I J a,I J b] 110,.cells #[I J c,I J d] 110],D⟩
theorem Yi:SWO (ltOf Hg) where
 irrefl x:=by simp[ltOf,Hg,Lib.compareInt]
 trans x y au h1 h2:=by simp[ltOf,Hg,Lib.compareInt] at*;grind
 ntrans x y au h1 h2:=by simp[ltOf,Hg,Lib.compareInt] at*;grind
theorem ll (x:fm):∀ u∈x.cs,u.oneCell'=Q:=by simp[fm.cs,Value.oneCell']
theorem Jf (L:List fm):flatK fm.cs 2 L.toArray=(L.flatMap fm.cs).toArray:=by
 have hl:(L.flatMap fm.cs).length=L.length*2:=by
  induction L with
  | nil=>rfl
  | cons x r ih=>rw[bh,aU,ih,bj,bH];simp[fm.cs];omega
 apply dD;intro t;by_cases ht:t<L.length*2
 ·have h1:t<(flatK fm.cs 2 L.toArray).size:=by simpa using ht
  have hd:t / 2<L.length:=om;rw[cO h1,<-ab0 _ t h1,Go.Sort.get_flatK _ _ _ t (by simpa using ht)];have e:L.toArray[t / 2]! =L[t / 2]:=by rw[ab0 _ _ (by simpa using hd)];simp
  rw[e,bT];have g1:=pj fm.cs 2 (λ_=>rfl) L (t / 2) (t % 2) hd om;rw[Nat.div_add_mod'] at g1;rw[g1];have hm:t % 2=0∨t % 2=1:=om;rcases hm with h | h<;>rw[h]<;>rfl
 ·rw[bM eC,bM (by simp[hl];omega)]
theorem Kf (F cur:Array Value)(h:F.size<=cur.size):(putCells id 0 F cur).toList.take F.size=F.toList:=by
 apply dh;intro j;rw[bE];by_cases hj:j<F.size
 ·rw[aA hj];have hc:j<cur.size:=om;simp[putCells,hj,hc]
 ·rw[az hj,b6 gZ]
theorem JX (L)(v)(b:Nat)(V w)(h:Rw fm.cs 110 2 w b v L)(hl:L.length<=100000)(hV:Bl V w)(hVb:V.heap.size<=b):
 Calls prog 251 #[v,.func (.func 252) #[] #[]] w λe w'=>e= .returned (.tuple #[])/\∃ M,M.Perm L/\(M.Pairwise λx y=>x.a<=y.a)/\Rw fm.cs 110 2 w' b v M/\Bl V w':=by
 have h0:=h;rcases h.2 with⟨rfl,hn⟩ | ⟨g,cap,cur,rfl,hb,hg,h2,h3,h4,h5⟩
 ·have hL:L=[]:=aa6.1 hn;subst hL;refine QS (AnyF.slices_SortFunc_none {Tryz.sortS with} E 0 _ w) ?_;exact⟨D,[],.refl _,.nil,h0,hV⟩
 ·have hH:HoldsK fm.cs 2 w g 0 L.toArray:=by
   intro j hj;rw[Jf] at hj ⊢;have hj':j<(L.flatMap fm.cs).length:=by simpa using hj
   rw[aZ];refine⟨?_,frozen_of_row _ _ _ _ _ hg⟩;rw[ab1 _ _ _ _ _ _ hg,ab0 _ j hj];have:=aP (λl=>l[j]?) h5;simp only[bE] at this;rw[aA (by rw[<-h.1];exact hj'),aW hj'] at this;simpa using this
  have hlt:g<w.heap.size:=(aa2.1 hg).1;have eg:∀ args w,(callFunc 252 args).run prog w= .ok (.enter 252 args) w:=enters_of func252 kr D;have hcon:=AnyQ.slices_SortFunc Tryz.sortS 2 isAgg110 sizeOf110 fm.cs (λ_=>rfl) ll Hg Yi 252 #[] g 0 cap L.toArray w eg (λ_ _ _ _ x y=>YJ x y _) hH hlt eC;refine hcon.mono ?_;rintro e w' ⟨rfl,d',n,os,hp,hs,rfl⟩;obtain⟨p1,p2,p3⟩:=hp;obtain⟨M,rfl⟩:∃ M:List fm,d'=M.toArray:=⟨d'.toList,sm⟩;have hML:M.length=L.length:=by simpa using p1
  have hperm:M.Perm L:=by
   have e1:M.toArray.extract 0 L.toArray.size=M.toArray:=by simp[<-hML]
   have e2:L.toArray.extract 0 L.toArray.size=L.toArray:=sm;rw[e1,e2] at p3;simpa using p3
  have hsort:M.Pairwise λx y=>x.a<=y.a:=by
   rw[ab9];intro i j hi hj hij;have k:=hs i j (aD _) hij eC;rw[ab0 _ j gZ,ab0 _ i ia] at k;simp[ltOf,Hg,Lib.compareInt] at k
   grind
  have hblk:(sortWorldK fm.cs 2 w g 0 n M.toArray os).heap[g]?=G (.cells (putCells id 0 (M.flatMap fm.cs).toArray cur) 110 (0,0)):=by
   unfold sortWorldK putRowK;rw[Jf];unfold grow putRow mapBlock;simp only[];rw[dU (by simpa using hlt),di,aA D];show Option.map _ w.heap[g]?=_;rw[hg];rfl
  have hfl:(M.flatMap fm.cs).length=(L.flatMap fm.cs).length:=(hperm.flatMap_right _).length_eq;refine⟨D,M,hperm,hsort,?_,?_⟩
  ·unfold Rw;rw[hML];refine⟨by rw[hfl];exact h.1,.inr ⟨g,cap,_,D,hb,hblk,h2,h3,by simp[putCells,h4],?_⟩⟩;have:=Kf (M.flatMap fm.cs).toArray cur (by simp only[dN];rw[hfl,h.1,h4];exact bt 2 h2);rw[dN,hfl,h.1] at this;simpa using this
  ·refine hV.gr (row:=G g) ⟨D,D,D,?_,?_⟩ (λk hk=>aba)
   ·unfold sortWorldK grow putRowK putRow mapBlock;simp
   ·intro k hk hne;have hne':g≠k:=λe=>hne (by rw[<-e]);unfold sortWorldK putRowK grow putRow mapBlock;simp only[];rw[dU iG,di,az hne'];rfl
end Tp
namespace Tp
open Go Go.RowKit Go.Lib
open Ds.DkM (bf gj)
theorem WL (A:List fm)(o s:fm)(h:s.a<=o.b):wC (A++[o]) s=A++[⟨o.a,max o.b s.b⟩]:=by
 unfold wC;have e:(A++[o]).getLast?=G o:=sm;rw[e];simp only[aA h,List.dropLast_concat]
theorem Ts (A:List fm)(o s:fm)(h:¬s.a<=o.b):wC (A++[o]) s=A++[o]++[s]:=by
 unfold wC;have e:(A++[o]).getLast?=G o:=sm;rw[e];simp only[az h]
theorem Lo {M:List fm}(hk:k<M.length):(M.take (k+1)).foldl wC []=wC ((M.take k).foldl wC []) M[k]:=by
 rw[aL hk,cX];rfl
theorem IP (l)(s):(wC l s).length<=l.length+1:=by
 unfold wC
 split
 ·split
  ·rw[aU,List.length_dropLast,ed];omega
  ·rw[aU,ed];omega
 ·rw[ed];omega
theorem Rw.two{A}{L}{x}(h:Rw fm.cs 110 2 W b (Z A n c) L)(hx:L[k]?=G x):
 ∃ g,A=G ⟨g,0,E⟩/\b<=g/\(∀ W',Bl W W'->W'.cell? ⟨g,k*2,E⟩=G (I J x.a))/\(∀ W',Bl W W'->W'.cell? ⟨g,k*2+1,E⟩=G (I J x.b)):=by
 obtain⟨hk,e⟩:=ab4.1 hx;obtain⟨g,hg,hb,_,k0,k1⟩:=h.Cm (f:=fm.cs) (c0:=λx=>I J x.a) (c1:=λx=>I J x.b) (λ_=>rfl) k hk;rw[e] at k0 k1;exact⟨g,hg,hb,k0,k1⟩
theorem Rw.last{A:List fm}{o:fm}(h:Rw fm.cs 110 2 W b (Z (G ⟨g,0,E⟩) n c) (A++[o]))(hq:q=A.length)(u:Int):
 Rw fm.cs 110 2 (W.setCell ⟨g,q*2+1,E⟩ (I J u)) b (Z (G ⟨g,0,E⟩) n c) (A++[⟨o.a,u⟩]):=by
 subst hq;have k:=Rw.Gj (f:=fm.cs) (sz:=2) (k:=A.length) (j:=1) (x:=⟨o.a,u⟩) (u:=I J u) (λ_=>rfl) h sm dc (by simp[fm.cs]);simpa using k
theorem Bl.un(h:Bl V W.drew):Bl V W:=⟨h.os,h.tape,h.output,h.size,h.block⟩
theorem pn:PredBelow prog 193 #[] (λx:fm=>.agg (fm.cs x).toArray) (λx=>!x.ok) w/\∀ g,sR 193 #[] fm.cs (λx=>!x.ok) w g:=
 ⟨λW x hb=>(kl x W).mono λ_ _ k=>⟨k.1,Bl.ca hb k.2⟩,λ_ W x _=>kl x W⟩
theorem ya (L)(v)(b:Nat)(w)(h:Rw fm.cs 110 2 w b v L)(hn:L.length<=10000):
 Calls prog 191 #[v] w λe w'=>∃ v',e= .returned v'/\Rw fm.cs 110 2 w' w.heap.size v' (fq L)/\Bl w w':=by
 obtain⟨CL,DL⟩:=eN (λW (hb:Bl w W)=>clnSpan ll W (h.bl hb) om) (λ(W:World) (v2:Value) (hr:Rw fm.cs 110 2 W w.heap.size v2 L) (hb:Bl w W)=>show Calls prog 249 #[v2,.func (.func 193) #[] #[]] W λe w'=>∃ v',e= .returned v'/\Rw fm.cs 110 2 w' w.heap.size v' (L.filter fm.ok)/\Bl w w' by
  refine(zP.2.2.2.2.1 (λx=>!x.ok) Tryz.call193 W hr pn.1 (λg _=>pn.2 g) om).mono ?_;rintro e w' ⟨v',rfl,h1,h2,_⟩;refine⟨v',D,gM,hb.gr h2 λk hk=>(hr.lt k hk).1⟩)
 obtain⟨SR,NO,HL⟩:=gi (λ(W:World) (v2:Value) (hr:Rw fm.cs 110 2 W w.heap.size v2 (L.filter fm.ok)) (hb:Bl w W)=>JX _ v2 _ w W hr (by have:=bp fm.ok L;omega) hb (aB _)) (λ(m:List fm) (h1:m.Perm (L.filter fm.ok)) (h2:m.Pairwise λx y=>x.a<=y.a)=>IJ h1 h2) (bp fm.ok L);have hb0:=br w;clear h
 go_enter func191,ntmps191
 go_upto_region 4 with(first | (go_at_call 250;refine aaj (CL _ hb0) λv1 w1 hr1 hb1=>?_) | (go_at_call 249;refine aaj (DL _ _ hr1 hb1) λv2 w2 hr2 hb2=>?_) | (go_at_call 251;refine(SR _ _ hr2 hb2).mono ?_;rintro e w5 ⟨rfl,M,hp,hs,hr5,hb5⟩))
 replace NO:=H (NO M hp hs);have hml:M.length<=10000:=by rw[hp.length_eq];have:=HL.out;omega
 obtain⟨A2,c2,rfl,_,_⟩:=hr5.form;obtain⟨HR,HB5⟩:=eN hr5 hb5;obtain⟨m,hm,HM⟩:=nh M.length;rw[<-hm] at hml ⊢;clear hp hs hm hn
 go_wp2_with fail
 go_loopw [14,3] (λi o wr=>∃ k:Nat,k<=m/\i= I J k/\Rw fm.cs 110 2 wr w5.heap.size o ((M.take k).foldl wC [])/\((M.take k).foldl wC []).length<=k/\Bl w5 wr) (λi _ _=>m - (intOf i).toNat)
 case atStart=>exact⟨0,aD _,D,Rw.nil,aB _,Bl.eH⟩
 case round=>
  obtain⟨k,hk,rfl,ho,hlen,hb⟩:=hrel;by_cases hlt:k<m
  ·have hk':k<M.length:=by rw[<-HM.out];exact hlt
   obtain⟨g,rfl,_,_,c0,c1⟩:=(HR.bl hb).Cm (f:=fm.cs) (c0:=λx=>I J x.a) (c1:=λx=>I J x.b) (λ_=>rfl) k hk';have FT:=H (Lo hk');generalize M[k]=x at*;have hlen2:=H (show((M.take (k+1)).foldl wC []).length<=k+1 by rw[FT.out];have:=IP ((M.take k).foldl wC []) x;omega);generalize (M.take k).foldl wC []=O at*;obtain⟨i1,i2⟩:=ln (k:=k) (m:=m) om;have HB:=H hb;have hb0:=br wr;obtain⟨A3,c3,rfl,hnc3,hcap3⟩:=ho.form;have HO:=H ho;clear ho
   go_upto_region 7 with fail
   obtain⟨V2,G2,hV2,hG2,BG2,LV2⟩:=iC wr #[I J x.a,I J x.b] 110;rw[<-hV2,<-hG2];clear hV2;replace hG2:=H hG2;obtain⟨g20,g21⟩:=ni BG2;have hb0:=br V2;obtain⟨HT,HO2,HG2⟩:=gi (HB.ca LV2) (HO.bl LV2) BG2;rcases dI O with e | ⟨A,o,e⟩
   ·subst e;rw[b8]
    go_upto_region 8 with fail
    refine ab3 (S:=λw'=>Bl V2 w') kr (Bl.dr hb0) (λhS=>?_);refine tH 0 hS ?_;refine tH 1 hS ?_;refine tH 2 hS ?_;refine oI 3 hS ?_;refine oI 4 hS ?_;refine oI 5 hS ?_;refine oI 6 hS ?_;refine oI 7 hS ?_;refine oI 8 hS ?_;refine oI 9 hS ?_;refine oI 10 hS ?_;refine oI 11 hS ?_;refine tH 12 hS ?_;refine XR ?_;have g0:=g20 _ (Bl.dr Bl.eH);have g1:=g21 _ (Bl.dr Bl.eH)
    go_wp2_with (at_builtin;refine fH xg D _ _ D w5.heap.size D (HO2.bl (Bl.al (Bl.dr Bl.eH) _)) D (eL _ _) (y:=x) D D (ll _) sm (HT.dr.al _).size ?_;intro v7 w7 ho7 hb7)
    exact⟨⟨k+1,hlt,eB,by rw[FT.out];exact ho7,hlen2,hb7 w5 D (HT.dr.al _)⟩,eE⟩
   ·rw[dz] at e;subst e;obtain⟨q,hq,HQ⟩:=nh A.length;have hl:(A++[o]).length=q+1:=by rw[hq];simp
    rw[hl] at HO2 HO hlen hnc3 ⊢;have hAl:(A++[o]).length<=99999:=by rw[hl];omega
    obtain⟨g3,rfl,hg3,d0,d1⟩:=HO2.two (k:=q) (x:=o) (by rw[hq];simp);have i3:(q:Int)+1>0:=om;have i4:(q:Int)<(q:Int)+1:=om;have i5:(0:Int)<=(q:Int):=om;have w1:IntKind.i64.wrap (q:Int)=q:=jh om;obtain⟨cg,hcg,_⟩:=HO2.cur;have zf:=λW (h:Bl V2 W)=>Bk.fr (h.bl hcg) (q*2+1);clear hq hl
    go_upto_region 8 with fail
    by_cases hle:x.a<=o.b;have j1:¬o.b<x.a:=om;rotate_left;have j1:o.b<x.a:=om;rotate_left
    all_goals
     refine ab3 (S:=λw'=>Bl V2 w') kr (Bl.dr hb0) (λhS=>?_);refine tH 0 hS ?_;refine tH 1 hS ?_;refine tH 2 hS ?_;refine tH 3 hS ?_;refine tH 4 hS ?_;refine tH 5 hS ?_;refine tH 6 hS ?_;refine tH 7 hS ?_;refine tH 8 hS ?_;refine tH 9 hS ?_;refine tH 10 hS ?_;refine tH 11 hS ?_;refine tH 12 hS ?_;refine XR ?_
    ·go_upto_region 9 with fail
     refine jI (T:=Bl w5) (S:=Bl V2) [14] HT.dr.dr hb0.dr.dr λhT0 hS0=>?_
     try dsimp only at hT0 hS0
     refine aaa [0,1,2,3,4,5,6,7] ?_;refine td 8 ?_;refine qd 9 ?_;refine td 10 ?_;refine aaa [11,12,13] ?_;refine eK 14 λKQ hK=>?_;go_simp;refine fJ (hK _ _) (Bl.dr (Bl.st (Bl.un hT0) (p:=⟨_,_,E⟩) hg3 _)) (eI (j:=14) kr kr) (λhT1=>?_)
     try dsimp only at hT1
     try simp only[fI]
     refine iU ?_;have hT:=H hT1
     go_wp2_with fail
     exact⟨⟨k+1,hlt,eB,by rw[FT.out,WL _ _ _ hle];exact(Rw.last HO2 HQ _).bl (Bl.dr (Bl.dr Bl.eH)),hlen2,hT⟩,eE⟩
    ·have g0:=g20 _ (Bl.dr Bl.eH);have g1:=g21 _ (Bl.dr Bl.eH)
     go_wp2_with (at_builtin;refine fH xg D _ _ D w5.heap.size D (HO2.bl (Bl.al (Bl.dr Bl.eH) _)) D (eL _ _) (y:=x) D D (ll _) hAl (HT.dr.al _).size ?_;intro v7 w7 ho7 hb7)
     exact⟨⟨k+1,hlt,eB,by rw[FT.out,Ts _ _ _ hle];exact ho7,hlen2,hb7 w5 D (HT.dr.al _)⟩,eE⟩
  ·have ek:k=m:=om;have i1:¬(k:Int)<m:=om;obtain⟨HO,HB⟩:=eN (show Rw fm.cs 110 2 wr w5.heap.size _ (fq L) by rw[ek,HM.out,aT,NO.out] at ho;exact ho) hb;clear ho
   go_wp2_with fail
   go_ret;exact⟨_,D,fa HO HB5.size,HB5.ca HB⟩
def Ml (x y:fm):fm:=⟨max x.a y.a,min x.b y.b⟩
def wB (X Y:List fm):List fm:=X.flatMap λx=>Y.map (Ml x)
theorem OK {X:List fm}(Y)(hk:k<X.length):wB (X.take (k+1)) Y=wB (X.take k) Y++Y.map (Ml X[k]):=by
 unfold wB;rw[aL hk,bB];simp
theorem IM (X Y:List fm)(k:Nat):(wB (X.take k) Y).length<=k*Y.length:=by
 unfold wB;rw[List.length_flatMap];have h1:∀ l:List fm,(l.map λx=>(Y.map (Ml x)).length).sum=l.length*Y.length:=by
  intro l
  induction l with
  | nil=>simp
  | cons x r ih=>rw[bC,List.sum_cons,ih,bg,bj,bH];omega
 rw[h1,aK];exact bt _ (dM _ _)
theorem QX {α:Type}{f:α->List Value}{ops:Array Oper}{rest:List Oper}{o:Oper}{a:Act}{ar:Exit->Act->World->Prop}{e}(T:Ty t e sz bytes)(hgd:o.guard=E)(s x:Operand)
 (ho:o.op= .call {callee:=.builtin .append,args:=#[s,x],argTypes:=#[t,t]}) (base:Nat)
 {v:Value} {L:List α} (hs:a.eval s=v) (h:Rw f e sz w base v L) {g:Nat} (hx:a.eval x= Z (G ⟨g,0,E⟩) 1 1) {t2:TypeId} {cs:Array Value} (hB:Bk w g t2 cs) {y:α} (hy:cs.toList=f y) (hsz:cs.size=sz) (h1:∀ u∈f y,u.oneCell'=Q)
 (hn:L.length<=99999) (hbase:base<=w.heap.size) {an:Nat} {tG:TypeId} {cG:Array Value} (hG:Bk w an tG cG) (hGs:cG.size=sz) (hsep:v.ownBlock≠G an) (hnil:L=[]->v= Z E 0 0)
 (k:∀ v' w',Rw f e sz w' base v' (L++[y])->v'.ownBlock≠G an->Bk w' an tG cG->(∀ V,base=V.heap.size->Bl V w->Bl V w')->wpList prog ops ar rest (a.put o.dst v') w'):wpList prog ops ar (o::rest) a w:=by
 have hGl:an<w.heap.size:=(aa2.1 hG).1;by_cases hL:L=[]
 ·subst hL;have hv:=hnil D;subst hv;refine fH (L:=[]) T hgd s x ho w.heap.size hs Rw.nil hx hB hy hsz h1 sm (aB _) (λv' w' h5 hb=>?_);have hbl:=hb w D Bl.eH;refine k v' w' (fa h5 hbase) (λe=>?_) (hbl.bl hG) (λV _ hV=>hV.ca hbl);have:=(h5.lt an e).1;omega
 ·obtain⟨i,au,hi,hz,q1,q2,q3⟩:=T.i;have hbt:(L.length+1)*bytes<=1000000*1000:=ch om T.ZG;refine wpList_append_own _ hgd s x t ho base e i au sz bytes T.u hi hz q1 q2 q3 T.pos v L.length (L.flatMap f) hs h ⟨g,0,E⟩ 1 1 cs.toList hx (by simpa using hsz) ((mP hB hsz (by rw[hy];exact h1)).ce ⟨g,0,E⟩ D) (by rw[hy];exact h1) eQ om hbase ?_;intro v' w' k1 k2 _;have hr:Rw f e sz w' base v' (L++[y]):=by
   unfold Rw;rw[hy] at k1;rw[bB,aU];simpa using k1
  have hG':Bk w' an tG cG:=(k2.block an hGl (λe=>hsep e.symm)).trans hG;refine k v' w' hr (λe2=>?_) hG' λV hV hb=>hb.gr k2 λq hq=>by rw[<-hV];exact(h.lt q hq).1
  rcases k1.2 with⟨rfl,hn0⟩ | ⟨g',cap,cur,rfl,hg,hh,hn',hm,hs',ht⟩
  ·omega
  ·have e3:g'=an:=by
    have:G g'=G an:=e2;injection this
   subst e3;have hG2:w'.heap[g']?=G (.cells cG tG):=hG';rw[hG2] at hh;injection hh with hh
   injection hh with hh1 hh2
   subst hh1;rw[hGs] at hs';have hp:=T.pos;have hc1:cap=1:=by
    rcases bZ 1 cap with hc | hc
    ·have:=bt sz (show 2<=cap from hc);omega
    ·have:0<L.length:=List.length_pos_iff.2 hL;omega
   have:0<L.length:=List.length_pos_iff.2 hL;omega
theorem KB {α β:Type}(f:α->β){L:List α}(hk:k<L.length):(L.take (k+1)).map f=(L.take k).map f++[f L[k]]:=by
 rw[aL hk,cz];rfl
theorem J2 (X Y)(vx vy)(bx bY:Nat)(w)(hx:Rw fm.cs 110 2 w bx vx X)(hy:Rw fm.cs 110 2 w bY vy Y)(hnx:X.length<=50)(hny:Y.length<=100):
 Calls prog 200 #[vx,vy] w λe w'=>∃ v',e= .returned v'/\Rw fm.cs 110 2 w' w.heap.size v' (fq (wB X Y))/\Bl w w':=by
 obtain⟨Ax,cx,rfl,_,_⟩:=hx.form;obtain⟨Ay,cy,rfl,_,_⟩:=hy.form;obtain⟨HX,HY⟩:=eN hx hy;obtain⟨m,hm,HM⟩:=nh X.length;obtain⟨n,hn,HN⟩:=nh Y.length;rw[<-hm,<-hn];rw[<-hm] at hnx;rw[<-hn] at hny;clear hx hy hm hn
 go_enter func200,ntmps200
 go_wp2_with fail
 go_loopw [12,5] (λi o wr=>∃ k:Nat,k<=m/\i= I J k/\Rw fm.cs 110 2 wr w.heap.size o (wB (X.take k) Y)/\(wB (X.take k) Y=[]->o= Z E 0 0)/\Bl w wr) (λi _ _=>m - (intOf i).toNat)
 case atStart=>exact⟨0,aD _,D,Rw.nil,λ_=>rfl,Bl.eH⟩
 case round=>
  obtain⟨k,hk,rfl,ho,hz,hb⟩:=hrel;have HZ:=H hz;clear hz;by_cases hlt:k<m
  ·have hk':k<X.length:=by rw[<-HM.out];exact hlt
   obtain⟨x,hxk⟩:∃ x,X[k]?=G x:=⟨_,aW hk'⟩;obtain⟨gx,rfl,_,c0,c1⟩:=Rw.two (HX.bl hb) hxk;obtain⟨MT,ML⟩:=eN (show wB (X.take (k+1)) Y=wB (X.take k) Y++Y.map (Ml x) by rw[OK Y hk'];rw[aW hk'] at hxk;injection hxk with hxk;rw[hxk]) (show(wB (X.take k) Y).length<=5000 by
    have h1:=IM X Y k;have h2:k*Y.length<=50*100:=ch om (by rw[<-HN.out];exact hny);omega)
   obtain⟨i1,i2⟩:=ln (k:=k) (m:=m) om;obtain⟨HB,HO⟩:=eN hb ho;have hb0:=br wr;clear ho hxk
   go_upto_region 5 with fail
   obtain⟨V2,G2,hV2,hG2,BG2,LV2⟩:=iC wr #[I J x.a,I J x.b] 110;rw[<-hV2,<-hG2];clear hV2;replace hG2:=H hG2;obtain⟨g20,g21⟩:=ni BG2;obtain⟨HB2,HO2,HG0,HNE⟩:=kB (HB.ca LV2) (HO.bl LV2) BG2 (λe=>Nat.lt_irrefl _ (hG2.out▸(HO.lt G2 e).2))
   go_wp2_with fail
   go_loopw [18,5] (λi o wr=>∃ j:Nat,j<=n/\i= I J j/\Rw fm.cs 110 2 wr w.heap.size o (wB (X.take k) Y++(Y.take j).map (Ml x))/\(wB (X.take k) Y++(Y.take j).map (Ml x)=[]->o= Z E 0 0)/\o.ownBlock≠G G2/\Bk wr G2 110 #[I J x.a,I J x.b]/\Bl w wr) (λi _ _=>n - (intOf i).toNat)
   case atStart=>exact⟨0,aD _,D,by simpa using HO2.out,λh=>HZ fc,HNE,HG0,HB2⟩
   case round=>
    obtain⟨j,hj,rfl,ho,hz,hne,hg2,hb⟩:=hrel;obtain⟨HZ2,HN2,HG2⟩:=gi hz hne hg2;have e0:=hg2.ce 0;have e1:=hg2.ce 1;clear hz hne;by_cases hlt2:j<n
    ·have hj':j<Y.length:=by rw[<-HN.out];exact hlt2
     obtain⟨y,hyj⟩:∃ y,Y[j]?=G y:=⟨_,aW hj'⟩;obtain⟨gy,rfl,_,d0,d1⟩:=Rw.two (HY.bl hb) hyj;have MP:=H (show(Y.take (j+1)).map (Ml x)=(Y.take j).map (Ml x)++[Ml x y] by rw[KB _ hj'];rw[aW hj'] at hyj;injection hyj with hyj;rw[hyj]);have hlen:(wB (X.take k) Y++(Y.take j).map (Ml x)).length<=99999:=by have:=ML.out;simp;omega
     have MA:=H (λW=>yg x y W);unfold fm.v at MA;obtain⟨j1,j2⟩:=ln (k:=j) (m:=n) om;obtain⟨HB3,HO3⟩:=eN hb ho;have hb0:=br wr;clear ho hyj
     go_upto_region 8 with fail
     obtain⟨V3,G3,hV3,hG3,BG3,LV3⟩:=iC wr #[I J y.a,I J y.b] 110;rw[<-hV3,<-hG3];clear hV3;replace hG3:=H hG3;obtain⟨g30,g31⟩:=ni BG3;have HG3:=H (LV3.bl HG2);obtain⟨f0,f1⟩:=Zc HG3;have hb0:=br V3
     go_wp2_with (first | (go_at_call 192;refine qx (MA _) λw5 hb5=>?_) | (at_builtin;refine QX xg D _ _ D w.heap.size D (((HO3.bl LV3).bl hb5).bl (gl _ _)) D (eL _ _) (y:=Ml x y) D D (ll _) hlen (((HB3.ca LV3).ca hb5).al _).size ((gl _ _).bl (hb5.bl HG3)) D HN2 HZ2 ?_;intro v7 w7 ho7 hne7 hg7 hb7))
     exact⟨⟨j+1,hlt2,eB,by rw[MP.out,<-aS];exact ho7,λh=>absurd h (by rw[MP.out];simp),hne7,hg7,hb7 w D (((HB3.ca LV3).ca hb5).al _)⟩,eE⟩
    ·exact rz
  ·have ek:k=m:=om;have i1:¬(k:Int)<m:=om;have ho2:=ho;rw[ek,HM.out,aT] at ho2;have hl2:(wB X Y).length<=10000:=by
    have h1:=IM X Y X.length;rw[aT] at h1;have h2:X.length*Y.length<=50*100:=ch (by rw[<-HM.out];exact hnx) (by rw[<-HN.out];exact hny);omega
   obtain⟨NO,HB⟩:=eN (ya _ _ _ wr ho2 hl2) hb;clear ho
   go_wp2_with (go_at_call 191;refine aaj NO λv5 w5 hr5 hb5=>?_)
   go_ret;exact⟨_,D,fa hr5 HB.size,HB.ca hb5⟩
theorem EJ:∀ (M O:List fm),(M.foldl wC O).length<=O.length+M.length
 | [],O=>aB _
 | x::r,O=>by
   rw[dj,bj];have h1:=EJ r (wC O x);have h2:=IP O x;omega
theorem lG (L):(fq L).length<=L.length:=by
 have hp:((L.filter fm.ok).mergeSort λx y=>decide (x.a<=y.a)).Perm (L.filter fm.ok):=List.mergeSort_perm _ _;have hs:((L.filter fm.ok).mergeSort λx y=>decide (x.a<=y.a)).Pairwise λx y=>x.a<=y.a:=
  (List.pairwise_mergeSort (λa b c h1 h2=>by simp at*;omega) (λa b=>eC) _).imp λh=>by simpa using h
 rw[<-IJ hp hs];have h1:=EJ ((L.filter fm.ok).mergeSort λx y=>decide (x.a<=y.a)) [];have h2:=bp fm.ok L;rw[hp.length_eq,b8] at h1;omega
theorem Fg (N)(s):(jU N s).length<=N.length:=List.length_filterMap_le _ _
theorem Oa {L:List eP}(N)(hk:k<L.length):oJ (L.take (k+1)) N=oJ (L.take k) N++jU N L[k]:=by
 unfold oJ;rw[aL hk,bB];simp
theorem wv (N):∀ (L:List eP),(oJ L N).length<=L.length*N.length
 | []=>by simp[oJ]
 | x::r=>by
   have h1:=wv N r;have h2:=Fg N x;unfold oJ at h1 ⊢;rw[bh,aU,bj,bH];omega
theorem LK {N:List fm}(s)(hj:j<N.length):jU (N.take (j+1)) s=jU (N.take j) s++(if(gh s N[j]).ok=Q then [gh s N[j]] else []):=by
 unfold jU;rw[aL hj,List.filterMap_append]
 congr 1
 unfold jb
 split<;>simp[*]
theorem Nh {L}{N}{M}(h:jO (oJ L N) M):M=jT L N:=MI (h.2.trans (mr _).symm) h.1 (AR _)
theorem Rw.XO{A}{L}{x}(h:Rw eP.cs 112 4 W b (Z A n c) L)(hx:L[k]?=G x):
 ∃ g,A=G ⟨g,0,E⟩/\b<=g/\(∀ W',Bl W W'->W'.cell? ⟨g,k*4,E⟩=G (I J x.a))/\(∀ W',Bl W W'->W'.cell? ⟨g,k*4+1,E⟩=G (I J x.b))/\(∀ W',Bl W W'->W'.cell? ⟨g,k*4+2,E⟩=G (I J x.n))/\(∀ W',Bl W W'->W'.cell? ⟨g,k*4+3,E⟩=G (I J x.st)):=by
 obtain⟨hk,e⟩:=ab4.1 hx;obtain⟨g,hg,hb,_,k0,k1,k2,k3⟩:=h.vW (f:=eP.cs) (c0:=λx=>I J x.a) (c1:=λx=>I J x.b) (c2:=λx=>I J x.n) (c3:=λx=>I J x.st) (λ_=>rfl) k hk;rw[e] at k0 k1 k2 k3;exact⟨g,hg,hb,k0,k1,k2,k3⟩
theorem Uj (L)(B)(vl vb)(bl bb:Nat)(w)(hl:Rw eP.cs 112 4 w bl vl L)(hb:Rw fm.cs 110 2 w bb vb B)(hnl:L.length<=200)(hnb:B.length<=200):
 Calls prog 120 #[vl,vb] w λe w'=>∃ v',e= .returned v'/\Rw eP.cs 112 4 w' w.heap.size v' (jT L (fq B))/\Bl w w':=by
 have NO:=H (λW (h:Bl w W)=>ya B vb bb W (hb.bl h) om);have hNl:=lG B;generalize fq B=N at NO hNl ⊢;obtain⟨Al,cl,rfl,_,_⟩:=hl.form;have HX:=H hl;obtain⟨m,hm,HM⟩:=nh L.length;obtain⟨n,hn,HN⟩:=nh N.length;rw[<-hm] at hnl ⊢;have hn2:n<=200:=om;clear hl hm hn hNl;have hb0:=br w
 go_enter func120,ntmps120
 go_upto_region 3 with(go_at_call 191;refine aaj (NO _ hb0) λv1 w1 hr1 hb1=>?_)
 obtain⟨Ay,cy,rfl,_,_⟩:=hr1.form;obtain⟨HY,HB1⟩:=eN hr1 hb1;rw[<-HN.out] at HY;rw[<-HN.out]
 go_wp2_with fail
 go_loopw [15,5] (λi o wr=>∃ k:Nat,k<=m/\i= I J k/\Rw eP.cs 112 4 wr w1.heap.size o (oJ (L.take k) N)/\(oJ (L.take k) N=[]->o= Z E 0 0)/\Bl w1 wr) (λi _ _=>m - (intOf i).toNat)
 case atStart=>exact⟨0,aD _,D,Rw.nil,λ_=>rfl,Bl.eH⟩
 case round=>
  obtain⟨k,hk,rfl,ho,hz,hb⟩:=hrel;have HZ:=H hz;clear hz;by_cases hlt:k<m
  ·have hk':k<L.length:=by rw[<-HM.out];exact hlt
   obtain⟨x,hxk⟩:∃ x,L[k]?=G x:=⟨_,aW hk'⟩;obtain⟨gx,rfl,_,c0,c1,c2,c3⟩:=Rw.XO (HX.bl (HB1.ca hb)) hxk;obtain⟨MT,ML⟩:=eN (show oJ (L.take (k+1)) N=oJ (L.take k) N++jU N x by rw[Oa N hk'];rw[aW hk'] at hxk;injection hxk with hxk;rw[hxk]) (show(oJ (L.take k) N).length<=40000 by
    have h1:=wv N (L.take k);have h2:(L.take k).length*N.length<=200*200:=ch fO (by rw[<-HN.out];exact hn2);omega)
   obtain⟨i1,i2⟩:=ln (k:=k) (m:=m) om;obtain⟨HB,HO⟩:=eN hb ho;have hb0:=br wr;clear ho hxk
   go_upto_region 6 with fail
   obtain⟨V2,G2,hV2,hG2,BG2,LV2⟩:=iC wr #[I J x.a,I J x.b,I J x.n,I J x.st] 112;rw[<-hV2,<-hG2];clear hV2;replace hG2:=H hG2;obtain⟨g20,g21,g22,g23⟩:=pw BG2;obtain⟨HB2,HO2,HG0,HNE⟩:=kB (HB.ca LV2) (HO.bl LV2) BG2 (λe=>Nat.lt_irrefl _ (hG2.out▸(HO.lt G2 e).2))
   go_wp2_with fail
   go_loopw [21,5] (λi o wr=>∃ j:Nat,j<=n/\i= I J j/\Rw eP.cs 112 4 wr w1.heap.size o (oJ (L.take k) N++jU (N.take j) x)/\(oJ (L.take k) N++jU (N.take j) x=[]->o= Z E 0 0)/\o.ownBlock≠G G2/\Bk wr G2 112 #[I J x.a,I J x.b,I J x.n,I J x.st]/\Bl w1 wr) (λi _ _=>n - (intOf i).toNat)
   case atStart=>exact⟨0,aD _,D,by simpa[jU] using HO2.out,λh=>HZ (by simpa[jU] using h),HNE,HG0,HB2⟩
   case round=>
    obtain⟨j,hj,rfl,ho,hz,hne,hg2,hb⟩:=hrel;obtain⟨HZ2,HN2,HG2⟩:=gi hz hne hg2;have e0:=hg2.ce 0;have e1:=hg2.ce 1;have e2:=hg2.ce 2;have e3:=hg2.ce 3;clear hz hne;by_cases hlt2:j<n
    ·have hj':j<N.length:=by rw[<-HN.out];exact hlt2
     obtain⟨y,hyj⟩:∃ y,N[j]?=G y:=⟨_,aW hj'⟩;obtain⟨gy,rfl,_,d0,d1⟩:=Rw.two (HY.bl hb) hyj;have MP:=H (show jU (N.take (j+1)) x=jU (N.take j) x++(if(gh x y).ok=Q then [gh x y] else []) by rw[LK x hj'];rw[aW hj'] at hyj;injection hyj with hyj;rw[hyj]);have hlen:(oJ (L.take k) N++jU (N.take j) x).length<=99999:=by have h1:=ML.out;have h2:=Fg (N.take j) x;rw[aK] at h2;rw[aU];omega
     obtain⟨MA,NN⟩:=eN (λW=>yg ⟨x.a,x.b⟩ y W) (λW=>show aai 193 #[.agg #[I J (max x.a y.a),I J (min x.b y.b)]] W (.bool (!(gh x y).ok)) from kl ⟨max x.a y.a,min x.b y.b⟩ W);unfold fm.v at MA;obtain⟨j1,j2⟩:=ln (k:=j) (m:=n) om;obtain⟨HB3,HO3⟩:=eN hb ho;have hb0:=br wr;clear ho hyj
     go_upto_region 9 with fail
     obtain⟨V3,G3,hV3,hG3,BG3,LV3⟩:=iC wr #[I J y.a,I J y.b] 110;rw[<-hV3,<-hG3];clear hV3;replace hG3:=H hG3;obtain⟨g30,g31⟩:=ni BG3;have HG3:=H (LV3.bl HG2);obtain⟨f0,f1⟩:=Zc HG3;have hb0:=br V3
     go_upto_region 10 with(go_at_call 192;refine qx (MA _) λw5 hb5=>?_)
     obtain⟨V4,G4,hV4,hG4,BG4,LV4⟩:=iC w5 #[I J (max x.a y.a),I J (min x.b y.b)] 110;rw[<-hV4,<-hG4];clear hV4;replace hG4:=H hG4;obtain⟨g40,g41⟩:=ni BG4;obtain⟨HG4,HB4,HO4⟩:=gi (LV4.bl (hb5.bl HG3)) (((HB3.ca LV3).ca hb5).ca LV4) (((HO3.bl LV3).bl hb5).bl LV4);have r0:=Bk.all HG4 2 D;have r1:=Bk.all HG4 3 D;have hb0:=br V4;by_cases hok:(gh x y).ok=Q
     ·rw[hok] at NN;have MP2:=H (show jU (N.take (j+1)) x=jU (N.take j) x++[gh x y] by rw[MP.out,aA hok]);clear hok
      go_wp2_with (first | (go_at_call 193;refine qx (NN _) λw6 hb6=>?_) | (at_builtin;refine QX uL D _ _ D w1.heap.size D ((HO4.bl hb6).bl (gl _ _)) D (eL _ _) (y:=gh x y) D D (j0 _) hlen ((HB4.ca hb6).al _).size ((gl _ _).bl (hb6.bl HG4)) D HN2 HZ2 ?_;intro v7 w7 ho7 hne7 hg7 hb7))
      exact⟨⟨j+1,hlt2,eB,by rw[MP2.out,<-aS];exact ho7,λh=>absurd h (by rw[MP2.out];simp),hne7,hg7,hb7 w1 D ((HB4.ca hb6).al _)⟩,eE⟩
     ·rw[show(gh x y).ok=z by simpa using hok] at NN;have MP2:=H (show jU (N.take (j+1)) x=jU (N.take j) x by rw[MP.out,az hok,aY]);clear hok
      go_wp2_with (go_at_call 193;refine qx (NN _) λw6 hb6=>?_)
      exact⟨⟨j+1,hlt2,eB,by rw[MP2.out];exact HO4.bl hb6,λh=>HZ2 (by rw[MP2.out] at h;exact h),HN2,hb6.bl HG4,HB4.ca hb6⟩,eE⟩
    ·exact rz
  ·have ek:k=m:=om;have i1:¬(k:Int)<m:=om;rw[ek,HM.out,aT] at ho;have hl2:(oJ L N).length<=100000:=by
    have h1:=wv N L;have h2:L.length*N.length<=200*200:=ch (by rw[<-HM.out];exact hnl) (by rw[<-HN.out];exact hn2);omega
   have SO:=H (Ii _ _ w1.heap.size w1 wr ho hl2 hb (aB _));clear ho
   go_wp2_with (go_at_call 194;refine SO.mono ?_;rintro e w5 ⟨rfl,M,hM,hr5,hb5⟩)
   go_ret;exact⟨_,D,by rw[<-Nh hM];exact fa hr5 HB1.size,HB1.ca hb5⟩
theorem Kl {L:List Sub}(a b)(hk:k<L.length):kP (L.take (k+1)) a b=kP (L.take k) a b++(if L[k].w=a/\L[k].u=b then [⟨L[k].a,L[k].b⟩] else []):=by
 unfold kP;rw[aL hk,bF,cz]
 congr 1
 by_cases h:L[k].w=a/\L[k].u=b
 ·simp[h]
 ·rw[bQ fc,az h];rfl
theorem qv (L)(a b):(kP L a b).length<=L.length:=by
 unfold kP;rw[bg];exact bp _ _
theorem DJ (L)(a b:ay)(v)(b0:Nat)(w)(h:Rw Sub.cs 293 4 w b0 v L)(hn:L.length<=1000):
 Calls prog 201 #[v,mj a b] w λe w'=>∃ v',e= .returned v'/\Rw fm.cs 110 2 w' w.heap.size v' (fq (kP L a b))/\Bl w w':=by
 unfold mj;obtain⟨A,cap,rfl,_,_⟩:=h.form;obtain⟨m,hm,HM⟩:=nh L.length;rw[<-hm] at hn ⊢;obtain⟨X,V,hX,hV,BX,HB,HXw,SV⟩:=gC w #[C a,C b] 117;obtain⟨x0,x1⟩:=ni BX;have HR:=H (h.bl HB);clear h hm
 go_enter func201,ntmps201
 go_upto_region 2 with fail
 rw[<-hV,<-hX];clear hV hX
 go_wp2_with fail
 go_loopw [10,5] (λi o wr=>∃ k:Nat,k<=m/\i= I J k/\Rw fm.cs 110 2 wr V.heap.size o (kP (L.take k) a b)/\Bl V wr) (λi _ _=>m - (intOf i).toNat)
 case atStart=>exact⟨0,aD _,D,Rw.nil,Bl.eH⟩
 case round=>
  obtain⟨k,hk,rfl,ho,hb⟩:=hrel;obtain⟨p0,p1⟩:=xV x0 x1 wr hb;by_cases hlt:k<m
  ·have hk':k<L.length:=by rw[<-HM.out];exact hlt
   obtain⟨g,rfl,_,_,c0,c1,c2,c3⟩:=(HR.bl hb).vW (f:=Sub.cs) (c0:=λx=>C x.w) (c1:=λx=>C x.u) (c2:=λx=>I J x.a) (c3:=λx=>I J x.b) (λ_=>rfl) k hk';have PT:=H (Kl a b hk');have hlen:(kP (L.take k) a b).length<=99999:=by have h1:=qv (L.take k) a b;rw[aK] at h1;omega
   generalize L[k]=x at*;obtain⟨i1,i2⟩:=ln (k:=k) (m:=m) om;obtain⟨HBk,HO⟩:=eN hb ho;have hb0:=br wr;clear ho
   go_upto_region 5 with fail
   clear c1;obtain⟨V2,G2,hV2,hG2,BG2,LV2⟩:=iC wr #[C x.w,C x.u,I J x.a,I J x.b] 293;rw[<-hV2,<-hG2];clear hV2;replace hG2:=H hG2;obtain⟨g20,g21,g22,g23⟩:=pw BG2;have hb0:=br V2;have q0:=LV2.ce p0;have q1:=LV2.ce p1;obtain⟨HB2,HO2⟩:=eN (HBk.ca LV2) (HO.bl LV2);have E1:(x.w.toList==a.toList)=decide (x.w=a):=gS;have E2:(x.u.toList==b.toList)=decide (x.u=b):=gS;by_cases h1:x.w=a
   ·by_cases h2:x.u=b
    ·rw[aF h1] at E1;rw[aF h2] at E2;have PT2:=H (show kP (L.take (k+1)) a b=kP (L.take k) a b++[⟨x.a,x.b⟩] by rw[PT.out,aA ⟨h1,h2⟩]);clear h1 h2
     go_wp2_with (at_builtin;refine fH xg D _ _ D V.heap.size D (HO2.bl (gl _ _)) D (eL _ _) (y:=⟨x.a,x.b⟩) D D (ll _) hlen (HB2.al _).size ?_;intro v7 w7 ho7 hb7)
     exact⟨⟨k+1,hlt,eB,by rw[PT2.out];exact ho7,hb7 V D (HB2.al _)⟩,eE⟩
    ·rw[aF h1] at E1;rw[aC h2] at E2;have PT2:=H (show kP (L.take (k+1)) a b=kP (L.take k) a b by rw[PT.out,az (λhh=>h2 hh.2),aY]);clear h1 h2;exact abH
   ·rw[aC h1] at E1;have PT2:=H (show kP (L.take (k+1)) a b=kP (L.take k) a b by rw[PT.out,az (λhh=>h1 hh.1),aY]);clear h1;exact abH
  ·have ek:k=m:=om;have i1:¬(k:Int)<m:=om;rw[ek,HM.out,aT] at ho;obtain⟨NO,HBk⟩:=eN (ya _ _ _ wr ho (by have h1:=qv L a b;have h2:=HM.out;omega)) hb;clear ho
   go_wp2_with (go_at_call 191;refine aaj NO λv5 w5 hr5 hb5=>?_)
   go_ret;exact⟨_,D,fa hr5 (HB.ca HBk).size,(HB.ca HBk).ca hb5⟩
def mn (L:List eP):Int×Bool:=L.foldl (λp s=>if s.ok=Q/\(p.2=z∨p.1<s.b) then(s.b,Q) else p) (0,z)
theorem GQ {L:List eP}(hk:k<L.length):mn (L.take (k+1))=(if L[k].ok=Q/\((mn (L.take k)).2=z∨(mn (L.take k)).1<L[k].b) then(L[k].b,Q) else mn (L.take k)):=by
 unfold mn;rw[aL hk,cX];rfl
theorem O7 (L)(v)(b:Nat)(w)(h:Rw eP.cs 112 4 w b v L):
 aai 130 #[v] w (.tuple #[I J (mn L).1,.bool (mn L).2]):=by
 obtain⟨A,cap,rfl,_,_⟩:=h.form;obtain⟨m,hm,HM⟩:=nh L.length;rw[<-hm];have HR:=H h;clear h hm
 go_enter func130,ntmps130
 go_wp2_with fail
 go_loopw [10,4,5] (λi o q wr=>∃ k:Nat,k<=m/\i= I J k/\o= I J (mn (L.take k)).1/\q= .bool (mn (L.take k)).2/\Bl w wr) (λi _ _ _=>m - (intOf i).toNat)
 case atStart=>exact⟨0,aD _,D,D,D,Bl.eH⟩
 case round=>
  obtain⟨k,hk,rfl,rfl,rfl,hb⟩:=hrel;by_cases hlt:k<m
  ·have hk':k<L.length:=by rw[<-HM.out];exact hlt
   obtain⟨x,hxk⟩:∃ x,L[k]?=G x:=⟨_,aW hk'⟩;obtain⟨g,rfl,_,c0,c1,c2,c3⟩:=Rw.XO (HR.bl hb) hxk;have LT:=GQ hk';rw[show L[k]=x by rw[aW hk'] at hxk;injection hxk] at LT;generalize mn (L.take k)=pq at LT ⊢;obtain⟨p,q⟩:=pq;simp only at LT ⊢;replace LT:=H LT;have NN:=λW=>kl ⟨x.a,x.b⟩ W;obtain⟨i1,i2⟩:=ln (k:=k) (m:=m) om;have HBk:=H hb;have hb0:=br wr;clear hxk
   go_upto_region 5 with fail
   obtain⟨V2,G2,hV2,hG2,BG2,LV2⟩:=iC wr #[I J x.a,I J x.b,I J x.n,I J x.st] 112;rw[<-hV2,<-hG2];clear hV2;replace hG2:=H hG2;obtain⟨g20,g21,g22,g23⟩:=pw BG2;have HB2:=H (HBk.ca LV2);have hb0:=br V2;have NN:∀ W,aai 193 #[.agg #[I J x.a,I J x.b]] W (.bool (!x.ok)):=λW=>NN W;replace NN:=H NN;by_cases hok:x.ok=Q
   ·rw[hok] at NN;cases q with
    | false=>
     have LT2:=H (show mn (L.take (k+1))=(x.b,Q) by rw[LT.out,aA ⟨hok,aG D⟩]);clear hok;exact nM
    | true=>
     by_cases hpb:p<x.b;have hpb':x.b>p:=hpb;have LT2:=H (show mn (L.take (k+1))=(x.b,Q) by rw[LT.out,aA ⟨hok,aI hpb⟩]);rotate_left;have hpb':¬x.b>p:=hpb;have LT2:=H (show mn (L.take (k+1))=(p,Q) by rw[LT.out,az (λhh=>hh.2.elim (λh=>Bool.noConfusion h) hpb)]);rotate_left
     all_goals
      clear hok;exact nM
   ·rw[show x.ok=z by simpa using hok] at NN;have LT2:=H (show mn (L.take (k+1))=(p,q) by rw[LT.out,az (λhh=>hok hh.1)]);clear hok;exact nM
  ·have ek:k=m:=om;have i1:¬(k:Int)<m:=om;obtain⟨LE,HBk⟩:=eN (show L.take m=L by rw[HM.out,aT]) hb
   go_wp2_with fail
   go_ret2
   exact⟨by rw[LE.out];rfl,HBk⟩
theorem jf{o}{aj R an:Prop}(f:Bl V (W.alloc o)->(aj->Bl V (W.alloc o))->R->an)(t:Bl V (W.alloc o))(r:Bl V (W.alloc o)->(W.alloc o).heap[W.heap.size]?=G o->(∀ (n:Nat) (x:Obj),W.heap[n]?=G x->(W.alloc o).heap[n]?=G x)->R):an:=f t (λ_=>t) (r t (eL W o) λ_ _ h=>fK o h)
theorem pv{A':Nat}{o}(h:W.heap[A]?=G o)(e:A'=A):W.heap[A']?=G o:=e▸h
theorem rY {α:Type}{f:α->List Value}{o:Oper}{a:Act}{K:Act->World->Prop}{ar:Exit->Act->World->Prop}{e}(T:Ty t e sz bytes)(s x:Operand)
 (ho:o.op= .call {callee:=.builtin .append,args:=#[s,x],argTypes:=#[t,t]}) (base:Nat)
 {v:Value} {L M:List α} (hs:a.eval s=v) (h:Rw f e sz w base v L) {A:Option Addr} {m c:Nat} (hx:a.eval x= Z A m c) (hS:Sl w sz A m c (M.flatMap f)) (hm:m=M.length)
 (hn:L.length+M.length<=1000000) (hbase:base<=w.heap.size)
 (k:∀ v' w',Rw f e sz w' base v' (L++M)->(∀ V,base=V.heap.size->Bl V w->Bl V w')->(∀ B o',v.ownBlock≠G B->w.heap[B]?=G o'->w'.heap[B]?=G o')->K (a.put o.dst v') w'):o.wp prog a w K ar:=by
 obtain⟨i,au,hi,hz,h1,h2,h3⟩:=T.i;cases A with
 | none=>
  obtain⟨h0,rfl⟩:=hS.nil D;have hM:M=[]:=aa6.1 om;subst hM;subst h0;have hrun:=run_append_owned_none (P:=prog) (w:=w) base t o.type e i sz T.u hi v L.length (L.flatMap f) h;unfold Oper.wp;simp[execOp,ho,resolve,invoke,builtin,hs,hx,hrun,Result.andThen];exact k v w fc (λV _ hb=>hb) (λB o' _ h=>h)
 | some ad=>
  have hb:(L.length+m)*bytes<=1000000*1000:=ch om T.ZG;refine wp_append_own _ s x t ho base e i au sz bytes T.u hi hz h1 h2 h3 T.pos v L.length (L.flatMap f) hs h ad m c (M.flatMap f) hx hS.len (hS.ce ad D) hS.one eQ om hbase ?_;intro v' w' k1 k2 _;refine k v' w' ?_ (λV hV hb=>hb.gr k2 λq hq=>by rw[<-hV];exact(h.lt q hq).1) (λB o' hB h=>(k2.block B (aa2.1 h).1 (λe=>hB e.symm)).trans h);unfold Rw;rw[bB,aU,<-hm];exact k1
theorem Rw.yb {α:Type}{f:α->List Value}(h:Bk W g t #[])(hb:b<=g):Rw f t sz W b (Z (G ⟨g,0,E⟩) 0 0) ([]:List α):=
 ⟨sm,.inr ⟨g,0,#[],D,hb,h,aB _,dc,sm,sm⟩⟩
theorem Rw.pre {α:Type}{f:α->List Value}{L:List α}{A}(hf:∀ x,(f x).length=sz)(ho:∀ x,∀ u∈f x,u.oneCell'=Q)(h:Rw f t sz V b (Z A n cap) L)(hk:k<=L.length):
 Sl V sz A k cap ((L.take k).flatMap f):=by
 rw[(gB f sz hf L k).1];exact(h.sl ho).pre hk
theorem Rw.VS {α:Type}{f:α->List Value}{L:List α}(hf:∀ x,(f x).length=sz)(ho:∀ x,∀ u∈f x,u.oneCell'=Q)(h:Rw f t sz V b (Z (G ⟨g,0,E⟩) n cap) L)(hk:k<=L.length):
 Sl V sz (if cap=k then G ⟨g,0,E⟩ else G ⟨g,k*sz,E⟩) (L.length - k) (cap - k) ((L.drop k).flatMap f):=by
 rw[(gB f sz hf L k).2];obtain⟨A,c,e,hc,_⟩:=h.form;injection e with e1 e2 e3
 subst e1;subst e2;subst e3;exact(h.sl ho).RG hk hc
theorem PI {L:List fm}{s}(hk:k+1=L.length):kW L s=if(L[k]' om).b=s.a then L.take k++[⟨(L[k]' om).a,s.b⟩] else L++[s]:=by
 have h1:L.getLast?=G (L[k]' om):=by
  rw[List.getLast?_eq_getElem?,show L.length - 1=k by omega,aW om]
 have h2:L.dropLast=L.take k:=by rw[List.dropLast_eq_take,show L.length - 1=k by omega]
 unfold kW;rw[h1,h2]
theorem Sy (L)(s:fm)(v)(b:Nat)(w)(h:Rw fm.cs 68 2 w b v L)(hb:b<=w.heap.size)(hn:L.length<=90000):
 Calls prog 47 #[v,s.v] w λe w'=>∃ v',e= .returned v'/\Rw fm.cs 68 2 w' b v' (kW L s)/\∀ V,b=V.heap.size->Bl V w->Bl V w':=by
 obtain⟨A,cap,rfl,hnc,hcap⟩:=h.form;obtain⟨m,hm,HM⟩:=nh L.length;rw[<-hm] at h hnc hn ⊢;unfold fm.v;obtain⟨X,V,hX,hV,BX,HB,HXw,SV⟩:=gC w #[I J s.a,I J s.b] 68;obtain⟨x0,x1⟩:=ni BX;obtain⟨HR,HBV⟩:=eN (h.bl HB) (show b<=V.heap.size from aH hb HB.size);have hb0:=br V;clear h hm;by_cases hm0:m=0
 ·have HG:=H (show kW L s=L++[s] by
   have hL:L=[]:=aa6.1 (by rw[<-HM.out];exact hm0);rw[hL];rfl)
  subst hm0
  go_enter func47,ntmps47
  go_upto_region 1 with fail
  rw[<-hV,<-hX];clear hV hX
  go_upto_region 2 with fail
  refine jI (T:=Bl V) (S:=Bl V) [] hb0.dr hb0.dr λhT0 hS0=>?_
  try dsimp only at hT0 hS0
  refine aaa [0,1,2,3,4,5,6,7,8,9,10,11,12] ?_;refine iU ?_;have hT:=H hT0
  go_wp2_with (at_builtin;refine fH pz D _ _ D b D (HR.bl (hT.al _)) D (eL _ _) (y:=s) D D (ll _) fT (aH HBV (hT.al _).size) ?_;intro v7 w7 ho7 hb7)
  go_ret;exact⟨_,D,by rw[HG.out];exact ho7,λai hU hUb=>hb7 ai hU (((hUb.ca HB).ca hT).al _)⟩
 ·obtain⟨k,hk⟩:∃ k,k+1=m:=⟨m - 1,om⟩;have hk':k<L.length:=by rw[<-HM.out];omega
  have HG:=H (PI (s:=s) (show k+1=L.length by rw[<-HM.out];exact hk));obtain⟨g,rfl,_,_,c0,c1⟩:=HR.Cm (f:=fm.cs) (c0:=λx=>I J x.a) (c1:=λx=>I J x.b) (λ_=>rfl) k hk';generalize L[k]=x at*;have i1:(0:Int)<(m:Int):=om;have i0:0<m:=om;have e1:IntKind.i64.wrap ((m:Int) - 1)=(k:Int):=by rw[jh om];omega
  have i2:(0:Int)<=(k:Int):=om;have i3:(k:Int)<m:=om;have i5:k<=cap:=om;obtain⟨HKL,HKL2⟩:=eN (show k<=L.length/\k=(L.take k).length/\([]:List fm).length+(L.take k).length<=1000000 by have h1:=HM.out;rw[aK];simp;omega) (show([]++L.take k).length+([⟨x.a,s.b⟩]:List fm).length<=1000000 by have h1:=HM.out;simp;omega);clear hk hm0;by_cases hx:x.b=s.a
  ·have e2:(x.b==s.a)=Q:=by simp[hx]
   have HG2:=H (show kW L s=L.take k++[⟨x.a,s.b⟩] by rw[HG.out,aA hx]);clear hx
   go_enter func47,ntmps47
   go_upto_region 1 with fail
   rw[<-hV,<-hX];clear hV hX
   go_upto_region 2 with fail
   refine jI (T:=Bl V) (S:=Bl V) [] hb0.dr hb0.dr λhT0 hS0=>?_
   try dsimp only at hT0 hS0
   refine aaa [0,1,2,3,4,5,6,7] ?_;refine td 8 ?_;refine qd 9 ?_;refine td 10 ?_;refine aaa [11,12] ?_;refine iU ?_;have hT:=H hT0
   go_upto_region 3 with fail
   refine jI (T:=Bl V) (S:=Bl V) [] (Bl.dr hT) (Bl.dr hT) λhT0 hS0=>?_
   try dsimp only at hT0 hS0
   refine aaa [1,2,3,4,6,7,8,9,10] ?_;refine td 11 ?_;refine qd 12 ?_;refine td 13 ?_;refine qd 14 ?_;refine ti 0 15 (λKQ hK=>?_) λKQ hK=>?_
   ·go_simp;refine jf (hK _ _) (hT0.al _) (λhT1 hA1 hM1=>?_);clear hM1
    try dsimp only at hT1
    have hS1:=hT1
    try simp only[gz,fI]
    refine ti 5 15 (λKQ hK=>?_) λKQ hK=>?_
    ·rw[aA (by rfl)];refine rY (f:=fm.cs) (v:=Z (G ⟨_,0,E⟩) 0 0) (L:=([]:List fm)) (M:=L.take k) pz _ _ D V.heap.size D (Rw.yb (pv hA1 fG) (by first | exact(hS1).size | exact aB _ | simp)) D (Rw.pre (f:=fm.cs) (λ_=>rfl) ll (HR.bl hS1) HKL.out.1) HKL.out.2.1 HKL.out.2.2 hS1.size ?_;intro v8 w8 ho8 hb8 hk2;have hS2:=hb8 V D hS1;have hT3:=hS2;have hS3:=hT3;refine kq hK ?_;refine eK 15 λKQ hK=>?_;go_simp;refine jf (hK _ _) (hT3.al _) (λhT4 hA4 hM4=>?_);clear hM4
     try dsimp only at hT4
     have hS4:=hT4
     try simp only[gz,fI]
     refine eK 16 λKQ hK=>?_;rw[aA (by rfl)];refine rY (f:=fm.cs) (L:=[]++L.take k) (M:=[⟨x.a,s.b⟩]) pz _ _ D V.heap.size D oa D (mP (cs:=#[I J x.a,I J s.b]) (pv hA4 fG) D gO) D HKL2 hS4.size ?_;exact rM
    ·go_simp;refine jf (hK _ _) (hT1.al _) (λhT2 hA2 hM2=>?_);replace hA1:=hM2 _ _ hA1;clear hM2
     try dsimp only at hT2
     have hS2:=hT2
     try simp only[gz,fI]
     refine eK 5 λKQ hK=>?_;rw[aA (by rfl)];refine rY (f:=fm.cs) (v:=Z (G ⟨_,0,E⟩) 0 0) (L:=([]:List fm)) (M:=L.take k) pz _ _ D V.heap.size D (Rw.yb (pv hA1 fG) (by first | exact(hS2).size | exact aB _ | simp)) D (Rw.pre (f:=fm.cs) (λ_=>rfl) ll (HR.bl hS2) HKL.out.1) HKL.out.2.1 HKL.out.2.2 hS2.size ?_;intro v8 w8 ho8 hb8 hk6;replace hA2:=hk6 _ _ aaP hA2;have hS3:=hb8 V D hS2;have hT4:=hS3;have hS4:=hT4;refine kq hK ?_;refine eK 16 λKQ hK=>?_;rw[aA (by rfl)];refine rY (f:=fm.cs) (L:=[]++L.take k) (M:=[⟨x.a,s.b⟩]) pz _ _ D V.heap.size D oa D (mP (cs:=#[I J x.a,I J s.b]) (pv hA2 fG) D gO) D HKL2 hS4.size ?_;exact rM
   ·go_simp;refine jf (hK _ _) (hT0.al _) (λhT1 hA1 hM1=>?_);clear hM1
    try dsimp only at hT1
    have hS1:=hT1
    try simp only[gz,fI]
    refine eK 0 λKQ hK=>?_;go_simp;refine jf (hK _ _) (hT1.al _) (λhT2 hA2 hM2=>?_);replace hA1:=hM2 _ _ hA1;clear hM2
    try dsimp only at hT2
    have hS2:=hT2
    try simp only[gz,fI]
    refine eK 5 λKQ hK=>?_;rw[aA (by rfl)];refine rY (f:=fm.cs) (v:=Z (G ⟨_,0,E⟩) 0 0) (L:=([]:List fm)) (M:=L.take k) pz _ _ D V.heap.size D (Rw.yb (pv hA2 fG) (by first | exact(hS2).size | exact aB _ | simp)) D (Rw.pre (f:=fm.cs) (λ_=>rfl) ll (HR.bl hS2) HKL.out.1) HKL.out.2.1 HKL.out.2.2 hS2.size ?_;intro v8 w8 ho8 hb8 hk10;replace hA1:=hk10 _ _ aaP hA1;have hS1:=hb8 V D hS2;have hT3:=hS1;have hS3:=hT3;refine kq hK ?_;refine eK 16 λKQ hK=>?_;rw[aA (by rfl)];refine rY (f:=fm.cs) (L:=[]++L.take k) (M:=[⟨x.a,s.b⟩]) pz _ _ D V.heap.size D oa D (mP (cs:=#[I J x.a,I J s.b]) (pv hA1 fG) D gO) D HKL2 hS3.size ?_;intro v9 w9 ho9 hb9 _;have hS2:=hb9 V D hS3;have hT4:=hS2;have hS4:=hT4;refine kq hK ?_;refine qd 17 ?_;refine iU ?_;have hL:=hS4;exact rl
  ·have e2:(x.b==s.a)=z:=by simpa using hx
   have HG2:=H (show kW L s=L++[s] by rw[HG.out,az hx]);clear hx
   go_enter func47,ntmps47
   go_upto_region 1 with fail
   rw[<-hV,<-hX];clear hV hX
   go_upto_region 2 with fail
   refine jI (T:=Bl V) (S:=Bl V) [] hb0.dr hb0.dr λhT0 hS0=>?_
   try dsimp only at hT0 hS0
   refine aaa [0,1,2,3,4,5,6,7] ?_;refine td 8 ?_;refine qd 9 ?_;refine td 10 ?_;refine aaa [11,12] ?_;refine iU ?_;have hT:=H hT0
   go_wp2_with (at_builtin;refine fH pz D _ _ D b D (HR.bl (hT.al _)) D (eL _ _) (y:=s) D D (ll _) fT (aH HBV (hT.al _).size) ?_;intro v7 w7 ho7 hb7)
   go_ret;exact⟨_,D,by rw[HG2.out];exact ho7,λai hU hUb=>hb7 ai hU (((hUb.ca HB).ca hT).al _)⟩
theorem Nb {L O}{ak:List Int}(hk:k+1<ak.length):mF L O (ak.drop k)=mF L (if fY L (ak[k]' om)=Q then kW O ⟨ak[k]' om,ak[k+1]⟩ else O) (ak.drop (k+1)):=by
 rw[aR (show k<ak.length by omega),aR hk,mF]
theorem JV {L O}{ak:List Int}(hk:¬k+1<ak.length):mF L O (ak.drop k)=O:=by
 match h:ak.drop k with
 | []=>rfl
 | [x]=>rfl
 | x::y::r=>
  have:=aP List.length h;rw[bm] at this;simp at this;omega
theorem Aa (O)(s):(kW O s).length<=O.length+1:=by
 unfold kW
 split
 ·split
  ·simp
  ·simp
 ·simp
theorem zw (L)(v)(b:Nat)(w)(h:Rw fm.cs 68 2 w b v L)(hn:L.length<=10000):
 Calls prog 26 #[v] w λe w'=>∃ v',e= .returned v'/\Rw fm.cs 68 2 w' 0 v' (fq L)/\Bl w w':=by
 obtain⟨EN,RH⟩:=eN (Ke L v b w h hn) (λ(t:Int) W (hW:Bl w W)=>NF L t v b W (h.bl hW));obtain⟨A,cap,rfl,hnc,hcap⟩:=h.form;have EL:(kZ L).length<=20000:=by have:=uo L [];unfold kZ;simp at this;omega
 have HNM:=H (show mF L [] ((kZ L).drop 0)=fq L from rfl);obtain⟨ak,hE⟩:=fe (kZ L);rw[<-hE] at EN EL HNM;clear h hE
 go_enter func26,ntmps26
 go_upto_region 2 with(go_at_call 45;refine aaj EN λv5 w5 hr5 hb5=>?_)
 obtain⟨A3,c3,rfl,he3,_⟩:=hr5.form;obtain⟨HR,HB⟩:=eN hr5 hb5;obtain⟨e,he,HE⟩:=nh ak.length;rw[<-he] at EL he3 ⊢;clear he
 go_wp2_with fail
 go_loopw [5,4] (λi o wr=>∃ k:Nat,k<=e/\i= I J k/\∃ O,Rw fm.cs 68 2 wr w5.heap.size o O/\Hid (mF L O (ak.drop k)=fq L)/\O.length<=k/\Bl w5 wr) (λi _ _=>e - (intOf i).toNat)
 case atStart=>exact⟨0,aD _,D,[],Rw.nil,HNM,aD _,Bl.eH⟩
 case round=>
  obtain⟨k,hk,rfl,O,ho,hO,hlen,hb⟩:=hrel;by_cases hlt:k+1<e
  ·have hk1:k+1<ak.length:=by rw[<-HE.out];exact hlt
   have hk':k<ak.length:=om;obtain⟨g,rfl,_,_,c0⟩:=HR.Js (f:=zU) (c0:=λx=>I J x) (λ_=>rfl) k hk';obtain⟨g',hg',_,_,d0⟩:=HR.Js (f:=zU) (c0:=λx=>I J x) (λ_=>rfl) (k+1) hk1;injection hg' with hg'
   injection hg' with hg'
   subst hg';have SO:=H (Nb (L:=L) (O:=O) hk1);have GLN:=λs=>Aa O s;generalize ak[k]=x at*;generalize ak[k+1]=y at*;have HBk:=H hb;have e1:IntKind.i64.wrap ((k:Int)+1)=(k:Int)+1:=by rw[jh om]
   have i1:(k:Int)+1<(e:Int):=om;have i2:(0:Int)<=(k:Int):=om;have i3:(k:Int)<e:=om;have i4:(0:Int)<=(k:Int)+1:=om;have RX:=RH x;have GL:=H (λW (hW:Bl wr W)=>Sy O ⟨x,y⟩ _ w5.heap.size W (ho.bl hW) (hb.ca hW).size om);obtain⟨A4,c4,rfl,_,_⟩:=ho.form;have HO:=H ho;cases hh:fY L x
   ·rw[hh] at RX;replace RX:=H RX;have FIN:=H (show mF L O (ak.drop (k+1))=fq L by rw[<-hO.out,SO.out,hh];rfl);clear ho hO hh
    go_upto_region 6 with fail
    obtain⟨q0,q1⟩:=xV c0 d0 wr HBk
    go_wp2_with (go_at_call 46;refine qx (RX _ (HB.ca HBk)) λw6 hb6=>?_)
    exact⟨⟨k+1,om,eB,_,HO.bl hb6,FIN,om,HBk.ca hb6⟩,eE⟩
   ·rw[hh] at RX;replace RX:=H RX;have FIN:=H (show mF L (kW O ⟨x,y⟩) (ak.drop (k+1))=fq L by rw[<-hO.out,SO.out,hh];rfl);clear ho hO hh;obtain⟨q0,q1⟩:=xV c0 d0 wr HBk
    go_upto_region 7 with(go_at_call 46;refine qx (RX _ (HB.ca HBk)) λw6 hb6=>?_)
    obtain⟨HB6,HW6⟩:=eN (HBk.ca hb6) hb6;refine jI (T:=Bl w5) (S:=Bl w5) [] (Bl.dr HB6) (Bl.dr HB6) λhT0 hS0=>?_
    try dsimp only at hT0 hS0
    refine aaa [0,1,2,3] ?_;refine td 4 ?_;refine aaa [5,6,7,8] ?_;refine td 9 ?_;refine qd 10 ?_;refine eK 11 λKQ hK=>?_;go_simp
    (go_at_call 47;refine aaj (GL _ (by repeat (first | exact HW6 | apply Bl.dr | apply Bl.al))) λv7 w7 ho7 hb7=>?_)
    have hT1:=hb7 w5 D hS0;have hS1:=hT1;refine kq hK ?_;refine qd 12 ?_;refine iU ?_;have hL:=hS1
    go_wp2_with fail
    exact⟨⟨k+1,om,eB,_,ho7,FIN,by have:=GLN ⟨x,y⟩;omega,hL⟩,eE⟩
  ·have i1:¬(k:Int)+1<(e:Int):=om;have e1:IntKind.i64.wrap ((k:Int)+1)=(k:Int)+1:=by rw[jh om]
   obtain⟨FIN,HO,HBk⟩:=gi (show O=fq L by rw[<-hO.out];exact(JV (by rw[<-HE.out];exact hlt)).symm) ho hb;clear ho hO
   go_wp2_with fail
   go_ret;exact⟨_,D,by rw[<-FIN.out];exact HO.iD,HB.ca HBk⟩
theorem iu {α:Type}{f:α->List Value}{ops:Array Oper}{rest:List Oper}{o:Oper}{a:Act}{ar:Exit->Act->World->Prop}{e}(T:Ty t e sz bytes)(hgd:o.guard=E)(s x:Operand)
 (ho:o.op= .call {callee:=.builtin .append,args:=#[s,x],argTypes:=#[t,t]}) (base:Nat)
 {v:Value} {L M:List α} (hs:a.eval s=v) (h:Rw f e sz w base v L) {A:Option Addr} {m c:Nat} (hx:a.eval x= Z A m c) (hS:Sl w sz A m c (M.flatMap f)) (hm:m=M.length)
 (hn:L.length+M.length<=1000000) (hbase:base<=w.heap.size)
 (k:∀ v' w',Rw f e sz w' base v' (L++M)->(∀ V,base=V.heap.size->Bl V w->Bl V w')->wpList prog ops ar rest (a.put o.dst v') w'):wpList prog ops ar (o::rest) a w:=
 wpList_plain hgd λ_ hK=>rY T s x ho base hs h hx hS hm hn hbase λv' w' h1 h2 _=>hK _ _ (k v' w' h1 h2)
theorem An:∀ (L:List eP) (s:eP) (k:Nat) (hk:k<L.length),mf (L.take (k+1)) s=if s.lt L[k]=Q then mf (L.take k) s else k+1
 | x::r,s,0,_=>by
   simp only[cK,List.take_zero,mf,bD,b9,b7,cU]
 | x::r,s,k+1,h=>by
   have hk:k<r.length:=by simpa using h
   have ih:=An r s k hk;rw[cK,cK];unfold mf;rw[ih,aL hk];simp only[dx,bD,dF,b9,b7];by_cases h:s.lt r[k]=Q
   ·simp[h]
   ·simp[h]
theorem Rw.ZI {α:Type}{f:α->List Value}{L:List α}{A}(h:Rw f t sz V b (Z A n cap) L):A=E∨∃ g,A=G ⟨g,0,E⟩:=by
 rcases h.2 with⟨hv,_⟩ | ⟨g,c,cur,hv,_⟩
 ·injection hv with h1;exact .inl h1
 ·injection hv with h1;exact .inr ⟨g,h1⟩
theorem Dv (L)(s:eP)(v)(b:Nat)(w)(h:Rw eP.cs 58 4 w b v L)(hn:L.length<=90000):
 Calls prog 28 #[v,s.v] w λe w'=>∃ v',e= .returned v'/\Rw eP.cs 58 4 w' 0 v' (pV L s)/\Bl w w':=by
 obtain⟨A,cap,rfl,hnc,hcap⟩:=h.form;obtain⟨m,hm⟩:=fe L.length;have hadr:=h.ZI;have hz:A=E->m=0/\cap=0:=λe=>by subst e;rw[hm];exact h.qE
 rw[<-hm] at h hnc hn ⊢;obtain⟨HM,AH⟩:=eN hm (λ(x:eP) W=>xN s x W);unfold eP.v at AH ⊢;obtain⟨X,V,hX,hV,BX,HB,HXw,SV⟩:=gC w #[I J s.a,I J s.b,I J s.n,I J s.st] 58;obtain⟨x0,x1,x2,x3⟩:=pw BX;have HR:=H (h.bl HB);have hb0:=br V;clear h hm;by_cases hok:s.a<s.b
 ·have i0:¬s.b<=s.a:=om;obtain⟨HA,HKL⟩:=eN (show pV L s=L.take (mf L s)++s::L.drop (mf L s) by unfold pV;rw[aA (show s.ok=Q from aF hok),BL]) (wU L s);clear hok
  go_enter func28,ntmps28
  go_upto_region 1 with fail
  rw[<-hV,<-hX];clear hV hX
  go_wp2_with fail
  go_loopw [6,5] (λi o wr=>∃ k:Nat,k<=m/\i= I J k/\o= I J (mf (L.take k) s)/\Bl V wr) (λi _ _=>m - (intOf i).toNat)
  case atStart=>exact⟨0,aD _,D,D,Bl.eH⟩
  case round=>
   obtain⟨k,hk,rfl,rfl,hb⟩:=hrel;by_cases hlt:k<m
   ·have hk':k<L.length:=by rw[<-HM.out];exact hlt
    obtain⟨g,rfl,_,_,c0,c1,c2,c3⟩:=HR.vW (f:=eP.cs) (c0:=λx=>I J x.a) (c1:=λx=>I J x.b) (c2:=λx=>I J x.n) (c3:=λx=>I J x.st) (λ_=>rfl) k hk';have AK:=H (An L s k hk');generalize L[k]=y at*;have AY:=AH y;obtain⟨i1,i2⟩:=ln (k:=k) (m:=m) om;cases hl:s.lt y;have tg0:Tg 0:=⟨⟩;rotate_left;have tg0:Tg 1:=⟨⟩;rotate_left
    all_goals
     rw[hl] at AY;replace AY:=H AY
    have HQ:=H (show mf (L.take (k+1)) s=k+1 by rw[AK.out,hl];rfl);rotate_left;have HQ:=H (show mf (L.take (k+1)) s=mf (L.take k) s by rw[AK.out,hl];rfl);rotate_left
    all_goals
     clear hl
     go_upto_region 7 with fail
     go_region_held3 (λw'=>Bl V w') (exact n7) (first | (go_at_call 48;refine qx (AY _) λw5 hb5=>?_))
     all_goals
      have H5:Bl V w5:=ms
      go_wp2_with fail
      go_round
      first
       | have _:Tg 1:=tg0
         case rel=>exact⟨k+1,hlt,eB,by rw[HQ.out],H5⟩
       | case rel=>exact⟨k+1,hlt,eB,by rw[HQ.out];go_num,H5⟩
      case measure=>simp[intOf];omega
   ·have ek:k=m:=om;have i1:¬(k:Int)<m:=om;obtain⟨HBk,HT⟩:=eN hb (show L.take k=L by rw[ek,HM.out,aT]);rw[HT.out];obtain⟨K,hK⟩:=fe (mf L s);rw[<-hK] at HA HKL ⊢;have hkm:K<=m:=by have h1:=HKL.out;have h2:=HM.out;omega
    have i3:(K:Int)<=m:=om;have i4:(K:Int)<=cap:=om;have i5:(0:Int)<=(K:Int):=om;have hn2:L.length<=90000:=by rw[<-HM.out];exact hn
    replace hn2:=H hn2;clear hK;obtain⟨NS,PR⟩:=eN (λ(hz2:L=[]) W=>show Sl W 4 E 0 0 ((L.drop 0).flatMap eP.cs) from⟨aaK,aaJ,λ_=>⟨D,D⟩,λa ha=>fX⟩) (λW (hW:Bl V W)=>Rw.pre (f:=eP.cs) (λ_=>rfl) j0 (HR.bl hW) HKL);have hkc:K<=cap:=om;have HKN:=H (show K=(L.take K).length/\([]:List eP).length+(L.take K).length<=1000000 by have h1:=HKL.out;have h2:=hn2.out;rw[aK];simp;omega)
    go_upto_region 10 with(at_builtin;refine iu (f:=eP.cs) (L:=([]:List eP)) (M:=L.take K) mq rfl _ _ rfl V.heap.size rfl (Rw.yb (eL _ _) HBk.size) rfl (PR _ (HBk.al _)) HKN.out.1 HKN.out.2 (HBk.al _).size ?_;intro v5 w5 ho5 hb5)
    have H5:=H (hb5 V D (HBk.al _));obtain⟨y0,y1,y2,y3⟩:=uW x0 x1 x2 x3 w5 H5;obtain⟨H5L,HO5⟩:=eN (show([]++L.take K).length<=99999 by have h1:=hn2.out;simp;omega) ho5
    go_upto_region 11 with(at_builtin;refine fH mq rfl _ _ rfl V.heap.size rfl (HO5.bl (gl _ _)) rfl (eL _ _) (y:=s) rfl rfl (j0 _) H5L (H5.al _).size ?_;intro v6 w6 ho6 hb6)
    obtain⟨H6,HO6,FIN,HDL⟩:=kB (hb6 V D (H5.al _)) ho6 (show([]++L.take K)++[s]++L.drop K=pV L s by rw[HA.out];simp) (show m - K=(L.drop K).length/\([]++L.take K++[s]).length+(L.drop K).length<=1000000 by have h1:=HKL.out;have h2:=hn2.out;have h3:=HM.out;simp;omega);rcases hadr with rfl | ⟨g,rfl⟩
    ·obtain⟨rfl,rfl⟩:=hz D;obtain rfl:K=0:=om
     go_wp2_with (at_builtin;refine iu (f:=eP.cs) (M:=L.drop 0) mq D _ _ D V.heap.size D HO6 D (NS (aa6.1 HM.symm) _) HDL.out.1 HDL.out.2 H6.size ?_;intro v7 w7 ho7 hb7)
     exact nP
    ·have SU:=H (λW (hW:Bl V W)=>Rw.VS (f:=eP.cs) (λ_=>rfl) j0 (HR.bl hW) HKL);rw[<-HM.out] at SU;by_cases hcK:cap=K
     ·rw[aA hcK] at SU;have hmK:m=K:=om;subst hcK;subst hmK;simp only[cr] at SU HDL
      go_wp2_with (at_builtin;refine iu (f:=eP.cs) (M:=L.drop _) mq D _ _ D V.heap.size D HO6 D (SU _ H6) HDL.out.1 HDL.out.2 H6.size ?_;intro v7 w7 ho7 hb7)
      exact nP
     ·rw[az hcK] at SU
      go_wp2_with (at_builtin;refine iu (f:=eP.cs) (M:=L.drop K) mq D _ _ D V.heap.size D HO6 D (SU _ H6) HDL.out.1 HDL.out.2 H6.size ?_;intro v7 w7 ho7 hb7)
      exact nP
 ·have i0:s.b<=s.a:=om;have HA:=H (show pV L s=L by unfold pV;rw[az];simpa[eP.ok] using i0);clear hok
  go_enter func28,ntmps28
  go_upto_region 1 with fail
  rw[<-hV,<-hX];clear hV hX
  go_wp2_with fail
  go_ret;exact⟨_,D,by rw[HA.out];exact HR.iD,HB⟩
theorem BM:∀ (l:List eP) (s:eP),j8 l s=l.take (gU (λx=>s.lt x) l)++s::l.drop (gU (λx=>s.lt x) l)
 | [],_=>rfl
 | x::r,s=>by
   unfold j8 gU
   split
   ·rfl
   ·rw[BM r s];rfl
theorem JY {L:List eP}(hk:k<L.length):uP (L.take (k+1))=j8 (uP (L.take k)) L[k]:=by
 unfold uP;rw[aL hk,cX];rfl
theorem Di (L)(v)(b:Nat)(w)(h:Rw eP.cs 58 4 w b v L)(hn:L.length<=90000):
 Calls prog 27 #[v] w λe w'=>∃ v',e= .returned v'/\Rw eP.cs 58 4 w' 0 v' (uP L)/\Bl w w':=by
 obtain⟨A,cap,rfl,hnc,hcap⟩:=h.form;have HR:=H h;obtain⟨m,hm,HM⟩:=nh L.length;rw[<-hm] at hnc hn ⊢;clear h hm
 go_enter func27,ntmps27
 go_wp2_with fail
 go_loopw [4,3] (λi o wr=>∃ k:Nat,k<=m/\i= I J k/\Rw eP.cs 58 4 wr 0 o (uP (L.take k))/\Bl w wr) (λi _ _=>m - (intOf i).toNat)
 case atStart=>exact⟨0,aD _,D,Rw.nil,Bl.eH⟩
 case round=>
  obtain⟨k,hk,rfl,ho,hb⟩:=hrel;by_cases hlt:k<m
  ·have hk':k<L.length:=by rw[<-HM.out];exact hlt
   obtain⟨g,rfl,_,_,c0,c1,c2,c3⟩:=(HR.bl hb).vW (f:=eP.cs) (c0:=λx=>I J x.a) (c1:=λx=>I J x.b) (c2:=λx=>I J x.n) (c3:=λx=>I J x.st) (λ_=>rfl) k hk';have ST:=H (JY hk');have SL:=(mr (L.take k)).length_eq;rw[aK] at SL;generalize L[k]=x at*;obtain⟨O,hO⟩:=fe (uP (L.take k));rw[<-hO] at ho ST SL;have hol:O.length<=90000:=om;obtain⟨A2,c2',rfl,hc2,hc2'⟩:=ho.form;have hz:A2=E->O.length=0/\c2'=0:=λe=>by subst e;exact ho.qE
   obtain⟨n,hnO,HN⟩:=nh O.length;rw[<-hnO] at hz hol hc2 ⊢;obtain⟨HO,HBk,AH⟩:=gi ho hb (λ(y:eP) W=>xN x y W);unfold eP.v at AH;obtain⟨i1,i2⟩:=ln (k:=k) (m:=m) om;obtain⟨hn2,HADR,HZ⟩:=gi (show O.length<=90000 by rw[<-HN.out];exact hol) ho.ZI hz;clear ho hO hnO hz;obtain⟨w1,rfl⟩:=fe wr
   go_upto_region 5 with fail
   go_wp2_with fail
   go_loopw [5] (λq w2=>∃ j:Nat,j<=n/\q= I J j/\Hid (gU (λy=>x.lt y) O=j+gU (λy=>x.lt y) (O.drop j))/\Bl w1 w2) (λq _=>n - (intOf q).toNat)
   case atStart=>exact⟨0,aD _,D,H sm,Bl.eH⟩
   case round=>
    obtain⟨j,hj,rfl,hd,hb0⟩:=hrel;by_cases hjl:j<n
    ·have hj':j<O.length:=by rw[<-HN.out];exact hjl
     obtain⟨g2,rfl,_,_,d0,d1,d2,d3⟩:=HO.vW (f:=eP.cs) (c0:=λx=>I J x.a) (c1:=λx=>I J x.b) (c2:=λx=>I J x.n) (c3:=λx=>I J x.st) (λ_=>rfl) j hj';obtain⟨NX,HT⟩:=eN (rQ (p:=λy=>x.lt y) hj' hd) (show x.lt O[j]=Q->gU (λy=>x.lt y) O=j from λhp=>by have h1:=hd.out;rw[rR _ hj',aA hp] at h1;omega);generalize O[j]=y at*;have AY:=AH y;obtain⟨i3,i4⟩:=ln (k:=j) (m:=n) om;clear hd;cases hl:x.lt y
     ·rw[hl] at AY;replace AY:=H AY;have HQ:=H (NX hl);clear hl
      go_upto_region 6 with fail
      go_region_held3 (λw'=>Bl w1 w') (exact n7) (first | (go_at_call 48;refine qx (AY _) λw5 hb5=>?_))
      all_goals
       have H5:Bl w1 w5:=ms;exact nT
     ·rw[hl] at AY;replace AY:=H AY;have HQ:=H (HT hl);clear hl
      go_upto_region 6 with fail
      go_region_held3 (λw'=>Bl w1 w') (exact n7) (first | (go_at_call 48;refine qx (AY _) λw5 hb5=>?_))
      all_goals
       have H5:Bl w1 w5:=ms
       go_upto_region 8 with fail
       obtain⟨K,hK⟩:=fe j;rw[<-hK] at HQ ⊢;have hkm:K<=n:=om;clear hK;obtain⟨HKL,HBk2,NS⟩:=gi (show K<=O.length by rw[<-HN.out];exact hkm) H5 (λ(hz2:O=[]) W=>show Sl W 4 E 0 0 ((O.drop 0).flatMap eP.cs) from⟨aaK,aaJ,λ_=>⟨D,D⟩,λa ha=>fX⟩);have PR:=H (λW (hW:Bl w1 W)=>Rw.pre (f:=eP.cs) (λ_=>rfl) j0 (HO.bl hW) HKL);have hkc:K<=c2':=om;have HKN:=H (show K=(O.take K).length/\([]:List eP).length+(O.take K).length<=1000000 by have h1:=HKL.out;have h2:=hn2.out;rw[aK];simp;omega)
       go_upto_region 9 with(at_builtin;refine iu (f:=eP.cs) (L:=([]:List eP)) (M:=O.take K) mq rfl _ _ rfl w1.heap.size rfl (Rw.yb (eL _ _) HBk2.size) rfl (PR _ (HBk2.al _)) HKN.out.1 HKN.out.2 (HBk2.al _).size ?_;intro v5 w5 ho5 hb5)
       have H5:=H (hb5 w1 D (HBk2.al _));obtain⟨y0,y1,y2,y3⟩:=uW c0 c1 c2 c3 w5 H5;obtain⟨H5L,HO5⟩:=eN (show([]++O.take K).length<=99999 by have h1:=hn2.out;simp;omega) ho5
       go_upto_region 10 with(at_builtin;refine fH mq rfl _ _ rfl w1.heap.size rfl (HO5.bl (gl _ _)) rfl (eL _ _) (y:=x) rfl rfl (j0 _) H5L (H5.al _).size ?_;intro v6 w6 ho6 hb6)
       obtain⟨H6,HO6,FIN,HDL⟩:=kB (hb6 w1 D (H5.al _)) ho6 (show([]++O.take K)++[x]++O.drop K=j8 O x by rw[BM,HQ.out];simp) (show n - K=(O.drop K).length/\([]++O.take K++[x]).length+(O.drop K).length<=1000000 by have h1:=HKL.out;have h2:=hn2.out;have h3:=HN.out;simp;omega);exact rF
    ·have i3:¬(j:Int)<n:=om;have i4:¬j<n:=hjl;have HQ:=H (show gU (λy=>x.lt y) O=j by have h1:=hd.out;have h2:=HN.out;rw[bR om] at h1;simpa[gU] using h1)
     go_upto_region 6 with fail
     refine jI (T:=Bl w1) (S:=Bl w1) [] hb0.dr hb0.dr λhT0 hS0=>?_
     try dsimp only at hT0 hS0
     refine aaa [0,1,2,3,4,5,6,7,8,9,10,11,12,13,14,15] ?_;refine iU ?_;have hT:=H hT0;have HBk2:=H (show Bl w1 _ from hT.out);obtain⟨K,hK⟩:=fe j;rw[<-hK] at HQ ⊢;have hkm:K<=n:=om;clear hK;have HKL:=H (show K<=O.length by rw[<-HN.out];exact hkm);clear hd
     go_upto_region 8 with fail
     obtain⟨NS,PR⟩:=eN (λ(hz2:O=[]) W=>show Sl W 4 E 0 0 ((O.drop 0).flatMap eP.cs) from⟨aaK,aaJ,λ_=>⟨D,D⟩,λa ha=>fX⟩) (λW (hW:Bl w1 W)=>Rw.pre (f:=eP.cs) (λ_=>rfl) j0 (HO.bl hW) HKL);have hkc:K<=c2':=om;have HKN:=H (show K=(O.take K).length/\([]:List eP).length+(O.take K).length<=1000000 by have h1:=HKL.out;have h2:=hn2.out;rw[aK];simp;omega)
     go_upto_region 9 with(at_builtin;refine iu (f:=eP.cs) (L:=([]:List eP)) (M:=O.take K) mq rfl _ _ rfl w1.heap.size rfl (Rw.yb (eL _ _) HBk2.size) rfl (PR _ (HBk2.al _)) HKN.out.1 HKN.out.2 (HBk2.al _).size ?_;intro v5 w5 ho5 hb5)
     have H5:=H (hb5 w1 D (HBk2.al _));obtain⟨y0,y1,y2,y3⟩:=uW c0 c1 c2 c3 w5 H5;obtain⟨H5L,HO5⟩:=eN (show([]++O.take K).length<=99999 by have h1:=hn2.out;simp;omega) ho5
     go_upto_region 10 with(at_builtin;refine fH mq rfl _ _ rfl w1.heap.size rfl (HO5.bl (gl _ _)) rfl (eL _ _) (y:=x) rfl rfl (j0 _) H5L (H5.al _).size ?_;intro v6 w6 ho6 hb6)
     obtain⟨H6,HO6,FIN,HDL⟩:=kB (hb6 w1 D (H5.al _)) ho6 (show([]++O.take K)++[x]++O.drop K=j8 O x by rw[BM,HQ.out];simp) (show n - K=(O.drop K).length/\([]++O.take K++[x]).length+(O.drop K).length<=1000000 by have h1:=HKL.out;have h2:=hn2.out;have h3:=HN.out;simp;omega);rcases HADR.out with rfl | ⟨g,rfl⟩
     ·obtain⟨rfl,rfl⟩:=HZ D;obtain rfl:K=0:=om
      go_wp2_with (at_builtin;refine iu (f:=eP.cs) (M:=O.drop 0) mq D _ _ D w1.heap.size D HO6 D (NS (aa6.1 HN.symm) _) HDL.out.1 HDL.out.2 H6.size ?_;intro v7 w7 ho7 hb7)
      go_wp2_with fail
      exact⟨⟨k+1,hlt,eB,by rw[ST.out,<-FIN.out];exact ho7.iD,HBk.ca (hb7 w1 D H6)⟩,eE⟩
     ·exact rF
  ·exact rK
theorem Bz {α:Type}(p:α->Bool)(L:List α):(L.any p=Q->0<=lH p L)/\(L.any p=z->lH p L= -1):=by
 have key:∀ L:List α,(L.any p=Q->gU p L<L.length)/\(L.any p=z->gU p L=L.length):=by
  intro L
  induction L with
  | nil=>simp[gU]
  | cons x r ih=>
   unfold gU;rw[bL];by_cases h:p x=Q
   ·simp[h]
   ·simp[h];exact⟨λx hx hp=>ih.1 (dB.2 ⟨x,hx,hp⟩),λhh=>ih.2 (by simpa using hh)⟩
 unfold lH;refine⟨λh=>?_,λh=>?_⟩
 ·rw[aA ((key L).1 h)];omega
 ·rw[az (by rw[(key L).2 h];omega)]
def GrP (L:List Sub)(a b:ay)(t:Int)(w:World)(e:Ending)(w':World):Prop:=
 Bl w w'/\((yu L a b=Q/\∃ ak:Int,ak≠0/\e= .returned (.tuple #[aw,I J ak]))∨(yu L a b=z/\∃ v',e= .returned (.tuple #[v',av])/\Rw Sub.cs 196 4 w' 0 v' (qe bf L ⟨a,b,t,FE⟩)))
theorem Gp (L)(a b:ay)(t:Int)(v)(b0:Nat)(w)(h:Rw Sub.cs 196 4 w b0 v L)(hn:L.length<=90000)
 (ha:a.size<=1000000) (hb:b.size<=1000000) (hS:∀ x∈L,x.w.size<=1000000/\x.u.size<=1000000):
 Calls prog 63 #[v,.agg #[C a,C b],I J t] w (GrP L a b t w):=by
 obtain⟨FO,AH⟩:=eN (λW (hW:Bl w W)=>xJ L a b v b0 W (h.bl hW)) (λ(x:Sub) (hx:x.w.size<=1000000/\x.u.size<=1000000) W=>Dj ⟨a,b,t,FE⟩ x W ha hb hx.1 hx.2);unfold Sub.v at AH;have IX:=Bz (Sub.ou a b) L;obtain⟨A,cap,rfl,hnc,hcap⟩:=h.form;obtain⟨m,hm⟩:=fe L.length;have hadr:=h.ZI;have hz:A=E->m=0/\cap=0:=λe=>by subst e;rw[hm];exact h.qE
 obtain⟨hn2,HS⟩:=eN hn hS;rw[<-hm] at h hnc hn FO ⊢;have HM:=H hm;obtain⟨X,V,hX,hV,BX,HB,HXw,SV⟩:=gC w #[C a,C b] 145;obtain⟨x0,x1⟩:=ni BX;have HR0:=H (h.bl HB);clear h hm ha hn;obtain⟨af,hJ⟩:=fe (lH (Sub.ou a b) L);rw[<-hJ] at IX FO;clear hJ;cases hf:yu L a b
 ·have j1:af= -1:=IX.2 hf;subst j1;have HF:=H hf;clear hf
  go_enter func63,ntmps63
  go_upto_region 1 with fail
  rw[<-hV,<-hX];clear hV hX;obtain⟨p0,p1⟩:=xV x0 x1 V Bl.eH
  go_upto_region 3 with(go_at_call 106;refine qx (FO _ HB) λw5 hb5=>?_)
  obtain⟨q0,q1⟩:=xV x0 x1 w5 hb5
  go_upto_region 4 with fail
  obtain⟨V2,Y,hV2,hY,BY,LV2⟩:=iC w5 #[C a,C b,I J t,I J 1099511627776] 196;rw[<-hV2,<-hY];clear hV2;replace hY:=H hY;obtain⟨y0,y1,y2,y3⟩:=pw BY;obtain⟨HR,HB2⟩:=eN ((HR0.bl hb5).bl LV2) ((HB.ca hb5).ca LV2)
  go_wp2_with fail
  go_loopw [9] (λq wr=>∃ j:Nat,j<=m/\q= I J j/\Hid (gU (λy=>Sub.lt bf ⟨a,b,t,FE⟩ y) L=j+gU (λy=>Sub.lt bf ⟨a,b,t,FE⟩ y) (L.drop j))/\Bl V2 wr) (λq _=>m - (intOf q).toNat)
  case atStart=>exact⟨0,aD _,D,H sm,Bl.eH⟩
  case round=>
   obtain⟨j,hj,rfl,hd,hb0⟩:=hrel;by_cases hjl:j<m
   ·have hj':j<L.length:=by rw[<-HM.out];exact hjl
    obtain⟨g2,rfl,_,_,d0,d1,d2,d3⟩:=HR.vW (f:=Sub.cs) (c0:=λx=>C x.w) (c1:=λx=>C x.u) (c2:=λx=>I J x.a) (c3:=λx=>I J x.b) (λ_=>rfl) j hj';obtain⟨NX,HT⟩:=eN (rQ (p:=λy=>Sub.lt bf ⟨a,b,t,FE⟩ y) hj' hd) (show Sub.lt bf ⟨a,b,t,FE⟩ L[j]=Q->gU (λy=>Sub.lt bf ⟨a,b,t,FE⟩ y) L=j from λhp=>by have h1:=hd.out;rw[rR _ hj',aA hp] at h1;omega);have AY:=AH L[j] (HS _ (aV hj'));generalize L[j]=y at*;obtain⟨i3,i4⟩:=ln (k:=j) (m:=m) om;clear hd;cases hl:Sub.lt bf ⟨a,b,t,FE⟩ y
    ·rw[hl] at AY;replace AY:=H AY;have HQ:=H (NX hl);clear hl
     go_upto_region 5 with fail
     go_region_held3 (λw'=>Bl V2 w') (exact n7) (first | (go_at_call 107;refine qx (AY _) λw6 hb6=>?_))
     all_goals
      have H5:Bl V2 w6:=ms;exact nT
    ·rw[hl] at AY;replace AY:=H AY;have HQ:=H (HT hl);clear hl
     go_upto_region 5 with fail
     go_region_held3 (λw'=>Bl V2 w') (exact n7) (first | (go_at_call 107;refine qx (AY _) λw6 hb6=>?_))
     all_goals
      have H5:Bl V2 w6:=ms
      go_upto_region 7 with fail
      obtain⟨K,hK⟩:=fe j;rw[<-hK] at HQ ⊢;have hkm:K<=m:=om;clear hK;obtain⟨HKL,HBk,NS⟩:=gi (show K<=L.length by rw[<-HM.out];exact hkm) H5 (λ(hz2:L=[]) W=>show Sl W 4 E 0 0 ((L.drop 0).flatMap Sub.cs) from⟨aaK,aaJ,λ_=>⟨D,D⟩,λa ha=>fX⟩);have PR:=H (λW (hW:Bl V2 W)=>Rw.pre (f:=Sub.cs) (λ_=>rfl) sub_one (HR.bl hW) HKL);have hkc:K<=cap:=om;have HKN:=H (show K=(L.take K).length/\([]:List Sub).length+(L.take K).length<=1000000 by have h1:=HKL.out;have h2:=hn2.out;rw[aK];simp;omega)
      go_upto_region 8 with(at_builtin;refine iu (f:=Sub.cs) (L:=([]:List Sub)) (M:=L.take K) oQ rfl _ _ rfl V2.heap.size rfl (Rw.yb (eL _ _) HBk.size) rfl (PR _ (HBk.al _)) HKN.out.1 HKN.out.2 (HBk.al _).size ?_;intro v5 w5 ho5 hb5)
      have H5:=H (hb5 V2 D (HBk.al _));obtain⟨z0,z1,z2,z3⟩:=uW y0 y1 y2 y3 w5 H5;obtain⟨H5L,HO5⟩:=eN (show([]++L.take K).length<=99999 by have h1:=hn2.out;simp;omega) ho5
      go_upto_region 9 with(at_builtin;refine fH oQ rfl _ _ rfl V2.heap.size rfl (HO5.bl (gl _ _)) rfl (eL _ _) (y:=(⟨a,b,t,FE⟩:Sub)) rfl rfl (sub_one _) H5L (H5.al _).size ?_;intro v6 w6 ho6 hb6)
      obtain⟨H6,HO6,FIN,HDL⟩:=kB (hb6 V2 D (H5.al _)) ho6 (show([]++L.take K)++[(⟨a,b,t,FE⟩:Sub)]++L.drop K=qe bf L ⟨a,b,t,FE⟩ by rw[wK,HQ.out];simp) (show m - K=(L.drop K).length/\([]++L.take K++[(⟨a,b,t,FE⟩:Sub)]).length+(L.drop K).length<=1000000 by have h1:=HKL.out;have h2:=hn2.out;have h3:=HM.out;simp;omega);exact qV
   ·have i3:¬(j:Int)<m:=om;have i4:¬j<m:=hjl;have HQ:=H (show gU (λy=>Sub.lt bf ⟨a,b,t,FE⟩ y) L=j by have h1:=hd.out;have h2:=HM.out;rw[bR om] at h1;simpa[gU] using h1)
    go_upto_region 5 with fail
    refine jI (T:=Bl V2) (S:=Bl V2) [] hb0.dr hb0.dr λhT0 hS0=>?_
    try dsimp only at hT0 hS0
    refine aaa [0,1,2,3,4,5,6,7,8,9,10,11,12] ?_;refine iU ?_;have hT:=H hT0;have HBk:=H (show Bl V2 _ from hT.out);obtain⟨K,hK⟩:=fe j;rw[<-hK] at HQ ⊢;have hkm:K<=m:=om;clear hK;have HKL:=H (show K<=L.length by rw[<-HM.out];exact hkm);clear hd
    go_upto_region 7 with fail
    obtain⟨NS,PR⟩:=eN (λ(hz2:L=[]) W=>show Sl W 4 E 0 0 ((L.drop 0).flatMap Sub.cs) from⟨aaK,aaJ,λ_=>⟨D,D⟩,λa ha=>fX⟩) (λW (hW:Bl V2 W)=>Rw.pre (f:=Sub.cs) (λ_=>rfl) sub_one (HR.bl hW) HKL);have hkc:K<=cap:=om;have HKN:=H (show K=(L.take K).length/\([]:List Sub).length+(L.take K).length<=1000000 by have h1:=HKL.out;have h2:=hn2.out;rw[aK];simp;omega)
    go_upto_region 8 with(at_builtin;refine iu (f:=Sub.cs) (L:=([]:List Sub)) (M:=L.take K) oQ rfl _ _ rfl V2.heap.size rfl (Rw.yb (eL _ _) HBk.size) rfl (PR _ (HBk.al _)) HKN.out.1 HKN.out.2 (HBk.al _).size ?_;intro v5 w5 ho5 hb5)
    have H5:=H (hb5 V2 D (HBk.al _));obtain⟨z0,z1,z2,z3⟩:=uW y0 y1 y2 y3 w5 H5;obtain⟨H5L,HO5⟩:=eN (show([]++L.take K).length<=99999 by have h1:=hn2.out;simp;omega) ho5
    go_upto_region 9 with(at_builtin;refine fH oQ rfl _ _ rfl V2.heap.size rfl (HO5.bl (gl _ _)) rfl (eL _ _) (y:=(⟨a,b,t,FE⟩:Sub)) rfl rfl (sub_one _) H5L (H5.al _).size ?_;intro v6 w6 ho6 hb6)
    obtain⟨H6,HO6,FIN,HDL⟩:=kB (hb6 V2 D (H5.al _)) ho6 (show([]++L.take K)++[(⟨a,b,t,FE⟩:Sub)]++L.drop K=qe bf L ⟨a,b,t,FE⟩ by rw[wK,HQ.out];simp) (show m - K=(L.drop K).length/\([]++L.take K++[(⟨a,b,t,FE⟩:Sub)]).length+(L.drop K).length<=1000000 by have h1:=HKL.out;have h2:=hn2.out;have h3:=HM.out;simp;omega);rcases hadr with rfl | ⟨g,rfl⟩
    ·obtain⟨rfl,rfl⟩:=hz D;obtain rfl:K=0:=om
     go_wp2_with (at_builtin;refine iu (f:=Sub.cs) (M:=L.drop 0) oQ D _ _ D V2.heap.size D HO6 D (NS (aa6.1 HM.symm) _) HDL.out.1 HDL.out.2 H6.size ?_;intro v7 w7 ho7 hb7)
     go_ret2
     exact⟨HB2.ca (hb7 V2 D H6),.inr ⟨HF,_,D,by rw[<-FIN.out];exact ho7.iD⟩⟩
    ·exact qV
 ·have j1:0<=af:=IX.1 hf;have HF:=H hf;clear hf
  go_enter func63,ntmps63
  exact qR
theorem Qa:∀ (L:List fl) (n:Int),(kC L n).isSome=L.any λx=>decide (x.n=n)
 | [],_=>rfl
 | x::r,n=>by
   unfold kC;rw[List.find?_cons,bL];by_cases h:x.n=n
   ·simp[h]
   ·simp[h];have:=Qa r n;unfold kC at this;simpa using this
def aaF (L:List fl)(x:fl)(w:World)(e:Ending)(w':World):Prop:=
 Bl w w'/\((((kC L x.n).isSome=Q∨16<=L.length)/\∃ ak:Int,ak≠0/\e= .returned (.tuple #[aw,I J ak]))∨(¬((kC L x.n).isSome=Q∨16<=L.length)/\∃ v',e= .returned (.tuple #[v',av])/\Rw fl.cs 189 4 w' 0 v' (oC L x)))
theorem Kb (L)(x:fl)(v)(b0:Nat)(w)(h:Rw fl.cs 189 4 w b0 v L)(hn:L.length<=90000):
 Calls prog 102 #[v,x.v] w (aaF L x w):=by
 have AT:=H (λW (hW:Bl w W)=>wq L x.n v b0 W (h.bl hW));have IX:=Bz (λy:fl=>decide (y.n=x.n)) L;have FA:=Qa L x.n;obtain⟨A,cap,rfl,hnc,hcap⟩:=h.form;obtain⟨m,hm⟩:=fe L.length;have hadr:=h.ZI;have hz:A=E->m=0/\cap=0:=λe=>by subst e;rw[hm];exact h.qE
 have hn2:=H hn;rw[<-hm] at h hnc hn AT ⊢;have HM:=H hm;unfold fl.v;obtain⟨X,V,hX,hV,BX,HB,HXw,SV⟩:=gC w #[I J x.n,C x.u,I J x.st,I J x.a] 189;obtain⟨x0,x1,x2,x3⟩:=pw BX;have HR:=H (h.bl HB);clear h hm hn;obtain⟨af,hJ⟩:=fe (lH (λy:fl=>decide (y.n=x.n)) L);rw[<-hJ] at IX AT;clear hJ;cases hf:(kC L x.n).isSome
 ·have j1:af= -1:=IX.2 (by rw[<-FA,hf]);subst j1;clear FA;by_cases h16:16<=m
  ·have i16:(16:Int)<=(m:Int):=om
   go_enter func102,ntmps102
   go_upto_region 1 with fail
   rw[<-hV,<-hX];clear hV hX;have p0:=x0 V Bl.eH
   go_wp2_with (go_at_call 172;refine qx (AT _ HB) λw5 hb5=>?_)
   go_ret2
   exact⟨HB.ca hb5,.inl ⟨.inr (by rw[<-HM.out];exact h16),_,dc,D⟩⟩
  ·have HF:=H (show ¬((kC L x.n).isSome=Q∨16<=L.length) from λhh=>hh.elim (λe=>by rw[hf] at e;cases e) (λe=>h16 (by rw[HM.out];exact e)));have i16:¬(16:Int)<=(m:Int):=om;clear hf h16
   go_enter func102,ntmps102
   go_upto_region 1 with fail
   rw[<-hV,<-hX];clear hV hX;have p0:=x0 V Bl.eH
   go_upto_region 5 with(go_at_call 172;refine qx (AT _ HB) λw5 hb5=>?_)
   have HB5:=H hb5
   go_wp2_with fail
   go_loopw [6] (λq wr=>∃ j:Nat,j<=m/\q= I J j/\Hid (gU (λy:fl=>decide (y.n>x.n)) L=j+gU (λy:fl=>decide (y.n>x.n)) (L.drop j))/\Bl V wr) (λq _=>m - (intOf q).toNat)
   case atStart=>exact⟨0,aD _,D,H sm,HB5⟩
   case round=>
    obtain⟨j,hj,rfl,hd,hb0⟩:=hrel;by_cases hjl:j<m
    ·have hj':j<L.length:=by rw[<-HM.out];exact hjl
     obtain⟨g2,rfl,_,_,d0,_,_,_⟩:=HR.vW (f:=fl.cs) (c0:=λx=>I J x.n) (c1:=λx=>C x.u) (c2:=λx=>I J x.st) (c3:=λx=>I J x.a) (λ_=>rfl) j hj';obtain⟨NX,HT⟩:=eN (rQ (p:=λy:fl=>decide (y.n>x.n)) hj' hd) (show L[j].n>x.n->gU (λy:fl=>decide (y.n>x.n)) L=j from λhp=>by have h1:=hd.out;rw[rR _ hj',aA (aF hp)] at h1;omega);generalize L[j]=y at*;obtain⟨i3,i4⟩:=ln (k:=j) (m:=m) om;clear hd;by_cases hl:y.n<=x.n
     ·have HQ:=H (NX (aC om))
      go_upto_region 6 with fail
      refine jI (T:=Bl V) (S:=Bl V) [] hb0.dr hb0.dr λhT0 hS0=>?_
      try dsimp only at hT0 hS0
      refine aaa [0,1,2,3,4,5,6,7,8] ?_;refine td 9 ?_;refine qd 10 ?_;refine td 11 ?_;refine aaa [12,13] ?_;refine iU ?_;have hT:=H hT0;have H5:=hT.out;exact nT
     ·have HQ:=H (HT om)
      go_upto_region 6 with fail
      refine jI (T:=Bl V) (S:=Bl V) [] hb0.dr hb0.dr λhT0 hS0=>?_
      try dsimp only at hT0 hS0
      refine aaa [0,1,2,3,4,5,6,7,8] ?_;refine td 9 ?_;refine qd 10 ?_;refine td 11 ?_;refine aaa [12,13] ?_;refine iU ?_;have hT:=H hT0;have HBk:=H (show Bl V _ from hT.out)
      go_upto_region 8 with fail
      obtain⟨K,hK⟩:=fe j;rw[<-hK] at HQ ⊢;have hkm:K<=m:=om;clear hK;have HKL:=H (show K<=L.length by rw[<-HM.out];exact hkm);clear hl;obtain⟨NS,PR⟩:=eN (λ(hz2:L=[]) W=>show Sl W 4 E 0 0 ((L.drop 0).flatMap fl.cs) from⟨aaK,aaJ,λ_=>⟨D,D⟩,λa ha=>fX⟩) (λW (hW:Bl V W)=>Rw.pre (f:=fl.cs) (λ_=>rfl) kL (HR.bl hW) HKL);have hkc:K<=cap:=om;have HKN:=H (show K=(L.take K).length/\([]:List fl).length+(L.take K).length<=1000000 by have h1:=HKL.out;have h2:=hn2.out;rw[aK];simp;omega)
      go_upto_region 9 with(at_builtin;refine iu (f:=fl.cs) (L:=([]:List fl)) (M:=L.take K) oR rfl _ _ rfl V.heap.size rfl (Rw.yb (eL _ _) HBk.size) rfl (PR _ (HBk.al _)) HKN.out.1 HKN.out.2 (HBk.al _).size ?_;intro v5 w5 ho5 hb5)
      have H5:=H (hb5 V D (HBk.al _));obtain⟨z0,z1,z2,z3⟩:=uW x0 x1 x2 x3 w5 H5;obtain⟨H5L,HO5⟩:=eN (show([]++L.take K).length<=99999 by have h1:=hn2.out;simp;omega) ho5
      go_upto_region 10 with(at_builtin;refine fH oR rfl _ _ rfl V.heap.size rfl (HO5.bl (gl _ _)) rfl (eL _ _) (y:=x) rfl rfl (kL _) H5L (H5.al _).size ?_;intro v6 w6 ho6 hb6)
      obtain⟨H6,HO6,FIN,HDL⟩:=kB (hb6 V D (H5.al _)) ho6 (show([]++L.take K)++[x]++L.drop K=oC L x by rw[wJ,HQ.out];simp) (show m - K=(L.drop K).length/\([]++L.take K++[x]).length+(L.drop K).length<=1000000 by have h1:=HKL.out;have h2:=hn2.out;have h3:=HM.out;simp;omega);exact ry
    ·have i3:¬(j:Int)<m:=om;have i4:¬j<m:=hjl;have HQ:=H (show gU (λy:fl=>decide (y.n>x.n)) L=j by have h1:=hd.out;have h2:=HM.out;rw[bR om] at h1;simpa[gU] using h1)
     go_upto_region 6 with fail
     refine jI (T:=Bl V) (S:=Bl V) [] hb0.dr hb0.dr λhT0 hS0=>?_
     try dsimp only at hT0 hS0
     refine aaa [0,1,2,3,4,5,6,7,8,9,10,11,12,13] ?_;refine iU ?_;have hT:=H hT0;have HBk:=H (show Bl V _ from hT.out);obtain⟨K,hK⟩:=fe j;rw[<-hK] at HQ ⊢;have hkm:K<=m:=om;clear hK;have HKL:=H (show K<=L.length by rw[<-HM.out];exact hkm);clear hd
     go_upto_region 8 with fail
     obtain⟨NS,PR⟩:=eN (λ(hz2:L=[]) W=>show Sl W 4 E 0 0 ((L.drop 0).flatMap fl.cs) from⟨aaK,aaJ,λ_=>⟨D,D⟩,λa ha=>fX⟩) (λW (hW:Bl V W)=>Rw.pre (f:=fl.cs) (λ_=>rfl) kL (HR.bl hW) HKL);have hkc:K<=cap:=om;have HKN:=H (show K=(L.take K).length/\([]:List fl).length+(L.take K).length<=1000000 by have h1:=HKL.out;have h2:=hn2.out;rw[aK];simp;omega)
     go_upto_region 9 with(at_builtin;refine iu (f:=fl.cs) (L:=([]:List fl)) (M:=L.take K) oR rfl _ _ rfl V.heap.size rfl (Rw.yb (eL _ _) HBk.size) rfl (PR _ (HBk.al _)) HKN.out.1 HKN.out.2 (HBk.al _).size ?_;intro v5 w5 ho5 hb5)
     have H5:=H (hb5 V D (HBk.al _));obtain⟨z0,z1,z2,z3⟩:=uW x0 x1 x2 x3 w5 H5;obtain⟨H5L,HO5⟩:=eN (show([]++L.take K).length<=99999 by have h1:=hn2.out;simp;omega) ho5
     go_upto_region 10 with(at_builtin;refine fH oR rfl _ _ rfl V.heap.size rfl (HO5.bl (gl _ _)) rfl (eL _ _) (y:=x) rfl rfl (kL _) H5L (H5.al _).size ?_;intro v6 w6 ho6 hb6)
     obtain⟨H6,HO6,FIN,HDL⟩:=kB (hb6 V D (H5.al _)) ho6 (show([]++L.take K)++[x]++L.drop K=oC L x by rw[wJ,HQ.out];simp) (show m - K=(L.drop K).length/\([]++L.take K++[x]).length+(L.drop K).length<=1000000 by have h1:=HKL.out;have h2:=hn2.out;have h3:=HM.out;simp;omega);rcases hadr with rfl | ⟨g,rfl⟩
     ·obtain⟨rfl,rfl⟩:=hz D;obtain rfl:K=0:=om
      go_wp2_with (at_builtin;refine iu (f:=fl.cs) (M:=L.drop 0) oR D _ _ D V.heap.size D HO6 D (NS (aa6.1 HM.symm) _) HDL.out.1 HDL.out.2 H6.size ?_;intro v7 w7 ho7 hb7)
      go_ret2
      exact⟨HB.ca (hb7 V D H6),.inr ⟨HF,_,D,by rw[<-FIN.out];exact ho7.iD⟩⟩
     ·exact ry
 ·have j1:0<=af:=IX.1 (by rw[<-FA,hf]);clear FA
  go_enter func102,ntmps102
  go_upto_region 1 with fail
  rw[<-hV,<-hX];clear hV hX;have p0:=x0 V Bl.eH
  go_wp2_with (go_at_call 172;refine qx (AT _ HB) λw5 hb5=>?_)
  go_ret2
  exact⟨HB.ca hb5,.inl ⟨.inl hf,_,dc,D⟩⟩
def wm {α:Type}(L:List α)(K:Nat)(M:List α)(k:Nat):List α:=if k<=K then L.take k else L.take K++M++(L.take k).drop (K+1)
theorem Dg {α:Type}{L:List α}{M:List α}(hk:k<L.length):wm L K M (k+1)=wm L K M k++(if k=K then M else [L[k]]):=by
 unfold wm;rcases dY k K with h | h | h
 ·rw[aA om,aA om,az om,aL hk]
 ·subst h;rw[az om,aA (aB _),aA D,bR fO,aY]
 ·rw[az om,az om,az om,aL hk,List.drop_append_of_le_length fO];simp
theorem Ir {α:Type}(L:List α)(K:Nat)(M:List α)(hM:M.length<=1)(k:Nat):(wm L K M k).length<=2*k+1:=by
 unfold wm
 split
 ·rw[aK];omega
 ·simp;omega
def RvP (L:List Sub)(a b:ay)(t:Int)(w:World)(e:Ending)(w':World):Prop:=
 Bl w w'/\((yu L a b=z/\∃ ak:Int,ak≠0/\e= .returned (.tuple #[aw,I J ak]))∨(yu L a b=Q/\∃ v',e= .returned (.tuple #[v',av])/\Rw Sub.cs 196 4 w' 0 v' (yV L a b t)))
theorem Dl (L)(a b:ay)(t:Int)(v)(b0:Nat)(w)(h:Rw Sub.cs 196 4 w b0 v L)(hn:L.length<=40000):
 Calls prog 64 #[v,.agg #[C a,C b],I J t] w (RvP L a b t w):=by
 have FO:=H (λW (hW:Bl w W)=>xJ L a b v b0 W (h.bl hW));have IX:=Bz (Sub.ou a b) L;obtain⟨A,cap,rfl,hnc,hcap⟩:=h.form;obtain⟨m,hm,HM⟩:=nh L.length;rw[<-hm] at h hnc hn FO ⊢;obtain⟨X,V,hX,hV,BX,HB,HXw,SV⟩:=gC w #[C a,C b] 145;obtain⟨x0,x1⟩:=ni BX;have HR:=H (h.bl HB);clear h hm;cases hf:yu L a b
 ·have j1:lH (Sub.ou a b) L= -1:=IX.2 hf;rw[j1] at FO;have HF:=H hf;clear hf j1
  go_enter func64,ntmps64
  exact qR
 ·have HF:=H hf;have j1:0<=lH (Sub.ou a b) L:=IX.1 hf;have hKL:gU (Sub.ou a b) L<L.length:=by
   unfold lH at j1
   split at j1
   ·assumption
   ·omega
  have jK:lH (Sub.ou a b) L=(gU (Sub.ou a b) L:Nat):=by unfold lH;rw[aA hKL]
  rw[jK] at FO;have RB:=Gk t hKL;obtain⟨K,hK⟩:=fe (gU (Sub.ou a b) L);simp only[<-hK] at FO RB hKL;obtain⟨M,hMM,HMM⟩:=nh ((if L[K].a<t then [(⟨L[K].w,L[K].u,L[K].a,t⟩:Sub)] else []));have hM0:M.length<=1:=by rw[hMM];split<;>simp
  obtain⟨OL,FIN⟩:=eN (λk=>Ir L K M hM0 k) (show wm L K M m=yV L a b t by
   rw[RB,<-hMM];unfold wm;rw[az fT,HM.out,aT];simp)
  have HKL:=H hKL;clear hf j1 jK hK RB hMM hM0
  go_enter func64,ntmps64
  go_upto_region 1 with fail
  rw[<-hV,<-hX];clear hV hX;obtain⟨p0,p1⟩:=xV x0 x1 V Bl.eH;have k0:¬(K:Int)<0:=om
  go_upto_region 5 with(go_at_call 106;refine qx (FO _ HB) λw5 hb5=>?_)
  have HB5:=H hb5
  go_wp2_with fail
  go_loopw [10,9] (λi o wr=>∃ k:Nat,k<=m/\i= I J k/\Rw Sub.cs 196 4 wr V.heap.size o (wm L K M k)/\Bl V wr) (λi _ _=>m - (intOf i).toNat)
  case atStart=>exact⟨0,aD _,D,by rw[show wm L K M 0=[] by unfold wm;rw[aA (aD _)];rfl];exact Rw.nil,HB5⟩
  case round=>
   obtain⟨k,hk,rfl,ho,hb⟩:=hrel;by_cases hlt:k<m
   ·have hk':k<L.length:=by rw[<-HM.out];exact hlt
    obtain⟨g,rfl,_,_,c0,c1,c2,c3⟩:=HR.vW (f:=Sub.cs) (c0:=λx=>C x.w) (c1:=λx=>C x.u) (c2:=λx=>I J x.a) (c3:=λx=>I J x.b) (λ_=>rfl) k hk';have RS:=H (Dg (K:=K) (M:=M) hk');have hlen:(wm L K M k).length<=99999:=by have:=OL k;omega
    obtain⟨i1,i2⟩:=ln (k:=k) (m:=m) om;obtain⟨d0,d1,d2,d3⟩:=uW c0 c1 c2 c3 wr hb;obtain⟨HBk,HO⟩:=eN hb ho;obtain⟨O,hO⟩:=fe (wm L K M k);rw[<-hO] at HO RS hlen;clear c1 ho hO;by_cases hkK:k=K
    ·subst hkK;have e1:((k:Int)==(k:Int))=Q:=sm;have e2:((k:Int) != (k:Int))=z:=sm;have HMX:=H (show M=(if L[k].a<t then [(⟨L[k].w,L[k].u,L[k].a,t⟩:Sub)] else []) from HMM.out);generalize L[k]=x at*;by_cases ht:x.a<t
     ·have FN:=H (show wm L k M (k+1)=O++[⟨x.w,x.u,x.a,t⟩] by rw[RS.out,aA D,HMX.out,aA ht])
      go_wp2_with (at_builtin;refine fH oQ D _ _ D V.heap.size D (HO.bl (Jp _ _ _)) D (fh _ _ sm) (y:=(⟨x.w,x.u,x.a,t⟩:Sub)) D D (sub_one _) hlen ((HBk.al _).al _).size ?_;intro v7 w7 ho7 hb7)
      exact abw
     ·have FN:=H (show wm L k M (k+1)=O by rw[RS.out,aA D,HMX.out,az ht,aY])
      go_wp2_with fail
      exact⟨⟨k+1,hlt,eB,by rw[FN.out];exact HO.bl (gl _ _),HBk.al _⟩,eE⟩
    ·have FN:=H (show wm L K M (k+1)=O++[L[k]] by rw[RS.out,az hkK]);have e1:((k:Int)==(K:Int))=z:=by simp;omega
     have e2:((k:Int) != (K:Int))=Q:=by simp;omega
     generalize L[k]=x at*
     go_wp2_with (at_builtin;refine fH oQ D _ _ D V.heap.size D (HO.bl (Jp _ _ _)) D (fh _ _ sm) (y:=x) D D (sub_one _) hlen ((HBk.al _).al _).size ?_;intro v7 w7 ho7 hb7)
     exact abw
   ·have ek:k=m:=om;have i1:¬(k:Int)<m:=om;have HBk:=H hb;rw[ek,FIN.out] at ho;have HO:=H ho;clear ho
    go_wp2_with fail
    go_ret2
    exact⟨HB.ca HBk,.inr ⟨HF,_,D,HO.iD⟩⟩
theorem Hm:∀ (L:List fl) (n:Int),yQ L n=gU (λx:fl=>decide (x.n=n)) L
 | [],_=>rfl
 | x::r,n=>by
   unfold yQ gU;by_cases hx:x.n=n
   ·rw[aA hx,aA (by simpa using hx)]
   ·rw[az hx,az (by simpa using hx),Hm r n]
theorem EU {L}{n:Int}{v}(h:Rw fl.cs 189 4 w b v L){x}(hx:kC L n=G x)(hu:x.u=u):
 ∀ W,Bl w W->aai 173 #[v,I J n,C u] W (.tuple #[x.v,av]):=λW hW=>by
 refine(zy L n u v b W (h.bl hW)).mono ?_;rintro e w' ⟨hb,h1 | h1⟩
 ·obtain⟨y,hy,_,he⟩:=h1;rw[hx] at hy;injection hy with hy
  subst hy;exact⟨he,hb⟩
 ·exact absurd hu (h1.1 x hx)
theorem Jg {L}{n:Int}{v}(h:Rw fl.cs 189 4 w b v L)(hno:∀ x,kC L n=G x->x.u≠u):
 ∀ W,Bl w W->Calls prog 173 #[v,I J n,C u] W λe w'=>∃ (y:fl) (ak:Int),ak≠0/\e= .returned (.tuple #[y.v,I J ak])/\Bl W w':=λW hW=>by
 refine(zy L n u v b W (h.bl hW)).mono ?_;rintro e w' ⟨hb,h1 | h1⟩
 ·obtain⟨y,hy,hu,_⟩:=h1;exact absurd hu (hno y hy)
 ·obtain⟨_,y,ak,hE,he⟩:=h1;exact⟨y,ak,hE,he,hb⟩
theorem Vi {L}{n:Int}{x}(hx:kC L n=G x):∃ h:gU (λy:fl=>decide (y.n=n)) L<L.length,L[gU (λy:fl=>decide (y.n=n)) L]=x/\lH (λy:fl=>decide (y.n=n)) L=(gU (λy:fl=>decide (y.n=n)) L:Nat):=by
 rw[P8] at hx;obtain⟨h,e⟩:=ab4.1 hx;exact⟨h,e,by unfold lH;rw[aA h]⟩
def Mf (L:List fl)(n:Int)(u:ay)(t:Int)(R:List fl)(w:World)(e:Ending)(w':World):Prop:=
 Bl w w'/\((∃ x,kC L n=G x/\x.u=u/\∃ v',e= .returned (.tuple #[v',(x.stay t).v,av])/\Rw fl.cs 189 4 w' 0 v' R)∨((∀ x,kC L n=G x->x.u≠u)/\∃ (s:eP) (ak:Int),ak≠0/\e= .returned (.tuple #[aw,s.v,I J ak])))
theorem pG (L)(n:Int)(u:ay)(t:Int)(v)(b:Nat)(w)(h:Rw fl.cs 189 4 w b v L)(hn:L.length<=40000):
 Calls prog 103 #[v,I J n,C u,I J t] w (Mf L n u t (tS L n) w):=by
 by_cases hh:∃ x,kC L n=G x/\x.u=u
 ·obtain⟨x,hx,hu⟩:=hh;obtain⟨FD,AT⟩:=eN (EU h hx hu) (λW (hW:Bl w W)=>wq L n v b W (h.bl hW));obtain⟨hK,hKx,hI⟩:=Vi hx;have RM:=(Cl hx 0 0).1;rw[Hm] at RM;rw[hI] at AT;have ST:=λW=>zt x t W;unfold fl.v at FD ST;unfold eP.v at ST;replace ST:=H ST;obtain⟨A,cap,rfl,hnc,hcap⟩:=h.form;obtain⟨m,hm,HM⟩:=nh L.length;rw[<-hm] at h hnc hn FD AT ⊢;obtain⟨K,hKK⟩:=fe (gU (λy:fl=>decide (y.n=n)) L);simp only[<-hKK] at AT RM hK hKx;obtain⟨HX,OL,FIN⟩:=gi (aJ hx hu) (λk=>Ir L K [] sm k) (show wm L K [] m=tS L n by
   rw[RM];unfold wm;rw[az fT,HM.out,aT];simp)
  obtain⟨Y,V,hY,hV,BY,HB,HYw,SV⟩:=gC w #[av,av,av,av] 58;obtain⟨y0,y1,y2,y3⟩:=pw BY;obtain⟨HR0,HYV⟩:=eN (h.bl HB) (aJ BY SV.out);clear h hm hx hu hKK RM hKx hI
  go_enter func103,ntmps103
  go_upto_region 1 with fail
  rw[<-hV,<-hY];clear hV hY
  go_upto_region 2 with(go_at_call 173;refine qx (FD _ HB) λw5 hb5=>?_)
  obtain⟨V1,ag,hV1,hZ,BZ,LV1⟩:=iC w5 #[I J x.n,C x.u,I J x.st,I J x.a] 189;rw[<-hV1,<-hZ];clear hV1;replace hZ:=H hZ;obtain⟨z0,z1,z2,z3⟩:=pw BZ;have HV1:=H (hb5.ca LV1);have HR:=H (HR0.bl HV1)
  go_wp2_with fail
  go_loopw [14,13] (λi o wr=>∃ k:Nat,k<=m/\i= I J k/\Rw fl.cs 189 4 wr V1.heap.size o (wm L K [] k)/\Bl V1 wr) (λi _ _=>m - (intOf i).toNat)
  case atStart=>exact⟨0,aD _,D,by rw[show wm L K [] 0=[] by unfold wm;rw[aA (aD _)];rfl];exact Rw.nil,Bl.eH⟩
  case round=>
   obtain⟨k,hk,rfl,ho,hb⟩:=hrel;by_cases hlt:k<m
   ·have hk':k<L.length:=by rw[<-HM.out];exact hlt
    obtain⟨g,rfl,_,_,c0,c1,c2,c3⟩:=HR.vW (f:=fl.cs) (c0:=λx=>I J x.n) (c1:=λx=>C x.u) (c2:=λx=>I J x.st) (c3:=λx=>I J x.a) (λ_=>rfl) k hk';have RS:=H (Dg (K:=K) (M:=[]) hk');have hlen:(wm L K [] k).length<=99999:=by have:=OL k;omega
    generalize L[k]=y at*;obtain⟨i1,i2⟩:=ln (k:=k) (m:=m) om;obtain⟨HBk,HO⟩:=eN hb ho;obtain⟨O,hO⟩:=fe (wm L K [] k);rw[<-hO] at HO RS hlen;clear ho hO;by_cases hkK:k=K
    ·have e1:((k:Int) != (K:Int))=z:=by simp[hkK]
     have FN:=H (show wm L K [] (k+1)=O by rw[RS.out,aA hkK,aY]);clear hkK c1
     go_wp2_with (go_at_call 172;refine qx (AT _ ((HB.ca HV1).ca HBk)) λw6 hb6=>?_)
     exact⟨⟨k+1,hlt,eB,by rw[FN.out];exact HO.bl hb6,HBk.ca hb6⟩,eE⟩
    ·have FN:=H (show wm L K [] (k+1)=O++[y] by rw[RS.out,az hkK]);have e1:((k:Int) != (K:Int))=Q:=by simp;omega
     clear hkK
     go_upto_region 9 with(go_at_call 172;refine qx (AT _ ((HB.ca HV1).ca HBk)) λw6 hb6=>?_)
     obtain⟨H6,HO6⟩:=eN (HBk.ca hb6) (HO.bl hb6);obtain⟨d0,d1,d2,d3⟩:=uW c0 c1 c2 c3 w6 H6;clear c1
     go_wp2_with (at_builtin;refine fH oR D _ _ D V1.heap.size D (HO6.bl (gl _ _)) D (eL _ _) (y:=y) D D (kL _) hlen (H6.al _).size ?_;intro v7 w7 ho7 hb7)
     exact⟨⟨k+1,hlt,eB,by rw[FN.out];exact ho7,hb7 V1 D (H6.al _)⟩,eE⟩
   ·have ek:k=m:=om;have i1:¬(k:Int)<m:=om;have HBk:=H hb;rw[ek,FIN.out] at ho;have HO:=H ho;obtain⟨e0,e1,e2,e3⟩:=uW z0 z1 z2 z3 wr hb;clear ho;have HVW:=H (HV1.ca HBk);have hYl:Y<V1.heap.size:=by have h1:=HYV.out.2;have h2:=HV1.size;omega
    have hYw:w.heap.size<=Y:=by have h1:=HYw.out;omega
    go_upto_region 10 with fail
    go_wp2_with (go_at_call 174;refine qx (ST _) λw6 hb6=>?_;have hY6:=(HVW.ca hb6).bl HYV.out.1;obtain⟨q0,q1,q2,q3⟩:=ZH hY6;have qf:=λj=>Bk.fr hY6 j)
    exact aa1 (lD (p:=9) (a:=8) (b:=10) D _ _ _ _ _ _ _ D (show Bk _ Y _ #[I J (x.stay t).a,I J (x.stay t).b,I J (x.stay t).n,I J (x.stay t).st] from Bk.set (Bk.set (Bk.set (Bk.set hY6 0 _) 1 _) 2 _) 3 _) underlying58 D oo) D ⟨((((HB.ca (HVW.ca hb6)).st hYw _).st hYw _).st hYw _).st hYw _,aG ⟨x,HX.out.1,HX.out.2,_,D,(show Rw fl.cs 189 4 _ _ _ (tS L n) from xW (HO.bl hb6) hYl _ _ _ _).iD⟩⟩
 ·have HNO:=H (show ∀ x,kC L n=G x->x.u≠u from λx hx hu=>hh ⟨x,hx,hu⟩);have FD:=H (Jg h HNO);obtain⟨A,cap,rfl,hnc,hcap⟩:=h.form;obtain⟨m,hm⟩:=fe L.length;rw[<-hm] at FD ⊢;obtain⟨Y,V,hY,hV,BY,HB,HYw,SV⟩:=gC w #[av,av,av,av] 58;obtain⟨y0,y1,y2,y3⟩:=pw BY;have HYV:=H (aJ BY SV.out);clear h hm hh
  go_enter func103,ntmps103
  go_upto_region 1 with fail
  rw[<-hV,<-hY];clear hV hY
  go_upto_region 2 with(go_at_call 173;refine(FD _ HB).mono ?_;rintro e w5 ⟨x,ak,hE,rfl,hb5⟩;unfold fl.v)
  have e1:(ak != 0)=Q:=by simp[hE]
  have hY5:=(hb5.ca (gl w5 (.cells #[I J x.n,C x.u,I J x.st,I J x.a] 189))).bl HYV.out.1;obtain⟨q0,q1,q2,q3⟩:=ZH hY5;have qf:=λj=>Bk.fr hY5 j;have hYw:w.heap.size<=Y:=by have h1:=HYw.out;omega
  go_wp2_with fail
  exact aa1 (lD (p:=9) (a:=8) (b:=10) D _ _ _ _ _ _ _ D (show Bk _ Y _ #[av,av,av,av] from Bk.set (Bk.set (Bk.set (Bk.set hY5 0 _) 1 _) 2 _) 3 _) underlying58 D oo) D ⟨(((((HB.ca hb5).al _).st hYw _).st hYw _).st hYw _).st hYw _,aI ⟨HNO,⟨0,0,0,0⟩,ak,hE,D⟩⟩
theorem Rw.Z9 {α:Type}{f:α->List Value}{L:List α}(hf:∀ x,(f x).length=4)(h:Rw f t 4 W b (Z (G ⟨g,0,E⟩) n cap) L)(hK:K<L.length){y:α}{a0 a1 a2 a3:Value}(hy:f y=[a0,a1,a2,a3]):
 Rw f t 4 ((((W.setCell ⟨g,K*4,E⟩ a0).setCell ⟨g,K*4+1,E⟩ a1).setCell ⟨g,K*4+2,E⟩ a2).setCell ⟨g,K*4+3,E⟩ a3) b (Z (G ⟨g,0,E⟩) n cap) (L.set K y):=by
 obtain⟨A,c,e,hnc,hcap⟩:=h.form;injection e with e1 e2 e3
 subst e2;subst e3;obtain⟨cur,hB,hs,ht⟩:=h.cur;obtain⟨g',e',hb,_,_⟩:=h.at hf K hK;injection e' with e'
 injection e' with e'
 subst e';refine Rw.mk' hf (((((hB.set (K*4) a0).set (K*4+1) a1).set (K*4+2) a2).set (K*4+3) a3)) (by simpa using hs) (by rw[cJ]) hnc hcap hb λk hk j hj=>?_;rw[cJ] at hk;have hle:k*4+j<cur.size:=om;have hcur:cur[k*4+j]?=(f L[k])[j]?:=by
  obtain⟨g3,h3,_,_,h4⟩:=h.at hf k hk;injection h3 with h3
  injection h3 with h3
  subst h3;rw[<-h4 j hj,hB.ce]
 rw[dy,bW,bW,bW,bW];by_cases hkk:K=k
 ·subst hkk;rw[aA D,hy]
  match j,hj with
  | 0,_=>rw[az om,az om,az om,aA om,aA (by simpa using hle)];rfl
  | 1,_=>rw[az om,az om,aA om,aA (by simpa using hle)];rfl
  | 2,_=>rw[az om,aA om,aA (by simpa using hle)];rfl
  | 3,_=>rw[aA om,aA (by simpa using hle)];rfl
 ·rw[az hkk,az om,az om,az om,az om,hcur]
theorem vG (L:List fl)(n:Int)(u:ay)(st t:Int)(v:Value)(b:Nat)(w:World)(h:Rw fl.cs 189 4 w b v L)(hn:L.length<=40000):
 Calls prog 104 #[v,I J n,C u,I J st,I J t] w (Mf L n u t (yP L n st t) w):=by
 by_cases hh:∃ x,kC L n=G x/\x.u=u
 ·obtain⟨x,hx,hu⟩:=hh;obtain⟨FD,AT⟩:=eN (EU h hx hu) (λW (hW:Bl w W)=>wq L n v b W (h.bl hW));obtain⟨hK,hKx,hI⟩:=Vi hx;have CH:=(Cl hx st t).2;have hxn:x.n=n:=by
   have h1:=hx;unfold kC at h1;have h2:=List.find?_some (p:=λy:fl=>decide (y.n=n)) h1;simpa using h2
  rw[Hm,hxn,hu] at CH;rw[hI] at AT;have ST:=λW=>zt x t W;unfold fl.v at FD ST;unfold eP.v at ST;replace ST:=H ST;obtain⟨A,cap,rfl,hnc,hcap⟩:=h.form;obtain⟨m,hm,HM⟩:=nh L.length;rw[<-hm] at h hnc hn FD AT ⊢;obtain⟨K,hKK⟩:=fe (gU (λy:fl=>decide (y.n=n)) L);simp only[<-hKK] at AT CH hK hKx;obtain⟨HX,HCH,HKL⟩:=gi (And.intro hx hu) CH hK;obtain⟨Y,V,hY,hV,BY,HB,HYw,SV⟩:=gC w #[av,av,av,av] 58;obtain⟨y0,y1,y2,y3⟩:=pw BY;obtain⟨HR0,HYV⟩:=eN (h.bl HB.out) (And.intro BY SV.out);have hkm:K<m:=by have:=HM.out;omega
  clear h hm hx hu hKK hKx hI hxn
  go_enter func104,ntmps104
  go_upto_region 1 with fail
  rw[<-hV,<-hY];clear hV hY
  go_upto_region 2 with(go_at_call 173;refine qx (FD.out _ HB.out) λw5 hb5=>?_)
  obtain⟨V1,ag,hV1,hZ,BZ,LV1⟩:=iC w5 #[I J x.n,C x.u,I J x.st,I J x.a] 189;rw[<-hV1,<-hZ];clear hV1;replace hZ:=H hZ;obtain⟨z0,z1,z2,z3⟩:=pw BZ;have HV1:=H (hb5.ca LV1.out);obtain⟨HR,HLN⟩:=eN (HR0.out.bl HV1.out) (show([]:List fl).length+L.length<=1000000 by have:=HM.out;simp;omega);have RS:=H (λW (hW:Bl V1 W)=>show Sl W 4 A m cap (L.flatMap fl.cs) by have h1:=(HR.out.bl hW).sl kL;rw[<-HM.out] at h1;exact h1)
  go_upto_region 5 with(at_builtin;refine iu (f:=fl.cs) (L:=([]:List fl)) (M:=L) oR rfl _ _ rfl V1.heap.size rfl (Rw.yb (eL _ _) (Nat.le_refl _)) rfl (RS.out _ (gl _ _)) HM.out HLN.out (gl _ _).size ?_;intro v6 w6 ho6 hb6)
  rw[List.nil_append] at ho6;have H6:=H (hb6 V1 rfl (gl _ _));obtain⟨A6,c6,rfl,hnc6,_⟩:=ho6.form;obtain⟨g6,rfl,hg6,hl6,s0,s1,s2,s3⟩:=ho6.vW (f:=fl.cs) (c0:=λx=>I J x.n) (c1:=λx=>C x.u) (c2:=λx=>I J x.st) (c3:=λx=>I J x.a) (λ_=>rfl) K hK;obtain⟨cur6,hB6,_,_⟩:=ho6.cur;rw[<-HM.out] at hnc6 ho6;rw[<-HM.out];have i1:(0:Int)<=(K:Int):=om;have i2:(K:Int)<m:=om;obtain⟨PU,HG6⟩:=eN (λW (hW:Bl w6 W)=>Rw.Z9 (λ_=>rfl) (Rw.bl ho6 hW) HKL.out (y:=(⟨n,u,st,t⟩:fl)) rfl) hg6;clear hnc6
  go_upto_region 6 with(go_at_call 172;refine qx (AT.out _ ((HB.out.ca HV1.out).ca H6.out)) λw7 hb7=>?_;obtain⟨q0,q1,q2,q3⟩:=uW s0 s1 s2 s3 w7 hb7;have qf:=λj=>Bk.fr (hb7.bl hB6) j)
  obtain⟨PU7,H7,HY7⟩:=gi (PU.out w7 hb7) (H6.out.ca hb7) (((HV1.out.ca H6.out).ca hb7).bl HYV.out.1);have hYl:Y<V1.heap.size:=by have h1:=HYV.out.2;have h2:=HV1.out.size;omega
  have hYw:w.heap.size<=Y:=by have h1:=HYw.out;omega
  have hYg:Y≠g6:=by have h1:=HG6.out;omega
  have HB7:=H ((HB.out.ca HV1.out).ca H7.out);obtain⟨W7,hW7⟩:=fe ((((w7.setCell ⟨g6,K*4,E⟩ (I J n)).setCell ⟨g6,K*4+1,E⟩ (C u)).setCell ⟨g6,K*4+2,E⟩ (I J st)).setCell ⟨g6,K*4+3,E⟩ (I J t));rw[<-hW7] at PU7 ⊢;have HW:=H (show Bl V1 W7 by rw[hW7];exact(((H7.out.st HG6.out _).st HG6.out _).st HG6.out _).st HG6.out _);obtain⟨q0,q1,q2,q3⟩:=uW z0 z1 z2 z3 W7 HW.out;have HVW:=H (HV1.out.ca HW.out);clear hW7 hB6
  go_wp2_with (go_at_call 174;refine qx (ST.out _) λw8 hb8=>?_;have hY8:=(HVW.out.ca hb8).bl HYV.out.1;obtain⟨p0,p1,p2,p3⟩:=ZH hY8;have pf:=λj=>Bk.fr hY8 j)
  exact bodyPost_ret (lD (p:=11) (a:=10) (b:=12) rfl _ _ _ _ _ _ _ rfl (show Bk _ Y _ #[I J (x.stay t).a,I J (x.stay t).b,I J (x.stay t).n,I J (x.stay t).st] from Bk.set (Bk.set (Bk.set (Bk.set hY8 0 _) 1 _) 2 _) 3 _) underlying58 rfl oo) rfl ⟨((((HB.out.ca (HVW.out.ca hb8)).st hYw _).st hYw _).st hYw _).st hYw _,Or.inl ⟨x,HX.out.1,HX.out.2,_,rfl,(show Rw fl.cs 189 4 _ _ _ (yP L n st t) by rw[HCH.out];exact xW (PU7.out.bl hb8) hYl _ _ _ _).iD⟩⟩
 ·have HNO:=H (show ∀ x,kC L n=G x->x.u≠u from λx hx hu=>hh ⟨x,hx,hu⟩);have FD:=H (Jg h HNO.out);obtain⟨A,cap,rfl,hnc,hcap⟩:=h.form;obtain⟨m,hm⟩:=fe L.length;rw[<-hm] at FD ⊢;obtain⟨Y,V,hY,hV,BY,HB,HYw,SV⟩:=gC w #[av,av,av,av] 58;obtain⟨y0,y1,y2,y3⟩:=pw BY;have HYV:=H (And.intro BY SV.out);clear h hm hh
  go_enter func104,ntmps104
  go_upto_region 1 with fail
  rw[<-hV,<-hY];clear hV hY
  go_upto_region 2 with(go_at_call 173;refine(FD.out _ HB.out).mono ?_;rintro e w5 ⟨x,ak,hE,rfl,hb5⟩;unfold fl.v)
  have e1:(ak != 0)=Q:=by simp[hE]
  have hY5:=(hb5.ca (gl w5 (.cells #[I J x.n,C x.u,I J x.st,I J x.a] 189))).bl HYV.out.1;obtain⟨q0,q1,q2,q3⟩:=ZH hY5;have qf:=λj=>Bk.fr hY5 j;have hYw:w.heap.size<=Y:=by have h1:=HYw.out;omega
  go_wp2_with fail
  exact bodyPost_ret (lD (p:=11) (a:=10) (b:=12) rfl _ _ _ _ _ _ _ rfl (show Bk _ Y _ #[av,av,av,av] from Bk.set (Bk.set (Bk.set (Bk.set hY5 0 _) 1 _) 2 _) 3 _) underlying58 rfl oo) rfl ⟨(((((HB.out.ca hb5).al _).st hYw _).st hYw _).st hYw _).st hYw _,Or.inr ⟨HNO.out,⟨0,0,0,0⟩,ak,hE,rfl⟩⟩
theorem Ki {α:Type}{key:α->ay}{lt:ay->ay->Bool}{e:α}{d:Bool}{L:List α}(hk:k<L.length):iV key lt u e d (L.drop k)=
 if d=z/\lt u (key L[k])=Q then e::(if key L[k]=u then iV key lt u e Q (L.drop (k+1)) else L[k]::iV key lt u e Q (L.drop (k+1)))
 else if key L[k]=u then(if d then iV key lt u e d (L.drop (k+1)) else e::iV key lt u e Q (L.drop (k+1)))
 else L[k]::iV key lt u e d (L.drop (k+1)):=by
 rw[aR hk,iV]
theorem MU {lt:ay->ay->Bool}{t:Int}{d:Bool}{L:List gb}(hk:k<L.length):qo lt u t d (L.drop k)=
 if d=z/\lt L[k].u u=z then⟨u,t⟩::(if L[k].u=u then qo lt u t Q (L.drop (k+1)) else L[k]::qo lt u t Q (L.drop (k+1)))
 else if L[k].u=u then qo lt u t d (L.drop (k+1)) else L[k]::qo lt u t d (L.drop (k+1)):=by
 rw[aR hk,qo]
theorem QD (a b:ay)(W)(ha:a.size<=9223372036854775807)(hb:b.size<=9223372036854775807):aai 108 #[C a,C b] W (I J (ir a b)):=
 (xL a b W ha hb).mono λe w' h=>⟨h.1,by obtain⟨q,rfl⟩:=h.2;exact Bl.eH.drn q⟩
theorem zv (L)(u:ay)(A0:Option Addr)(n0 p0:Nat)(v)(b:Nat)(w)(h:Rw UC.cs 200 2 w b v L)(hn:L.length<=40000)(hu:u.size<=1000000)(hS:∀ x∈L,x.u.size<=1000000):
 Calls prog 67 #[v,C u,Z A0 n0 p0] w λe w'=>∃ v',e= .returned v'/\Rw UC.cs 200 2 w' 0 v' (iV UC.u bf u ⟨u,A0,n0,p0⟩ (decide (n0=0)) L)/\Bl w w':=by
 have CM:=H (λ(x:ay) (hx:x.size<=1000000) W=>QD u x W om om);obtain⟨A,cap,rfl,hnc,hcap⟩:=h.form;obtain⟨m,hm,HM⟩:=nh L.length;rw[<-hm] at h hnc hn ⊢;obtain⟨HR,HS⟩:=eN h hS;obtain⟨ak,hE⟩:∃ ak:UC,ak=⟨u,A0,n0,p0⟩:=⟨_,D⟩;rw[<-hE];have HE:=H hE;obtain⟨D0,hD⟩:=fe (decide (n0=0));rw[<-hD];have e0:((n0:Int)==0)=D0:=by rw[hD,cv];simp
 clear h hm hS hE hD hu
 go_enter func67,ntmps67
 go_wp2_with fail
 go_loopw [9,7,8] (λi o d wr=>∃ k:Nat,k<=m/\i= I J k/\∃ (O:List UC) (aq:Bool),d= .bool aq/\Rw UC.cs 200 2 wr w.heap.size o O/\Hid (O++iV UC.u bf u ak aq (L.drop k)=iV UC.u bf u ak D0 L)/\O.length<=2*k/\Bl w wr) (λi _ _ _=>m - (intOf i).toNat)
 case atStart=>exact⟨0,aD _,D,[],D0,D,Rw.nil,H sm,aD _,Bl.eH⟩
 case round=>
  obtain⟨k,hk,rfl,O,aq,rfl,ho,hO,hlen,hb⟩:=hrel;by_cases hlt:k<m
  ·have hk':k<L.length:=by rw[<-HM.out];exact hlt
   obtain⟨g,rfl,_,_,c0w,c1w⟩:=HR.Cm (f:=UC.cs) (c0:=λx=>C x.u) (c1:=λx=>Z x.A x.n x.c) (λ_=>rfl) k hk';have PD:=H (Ki (key:=UC.u) (lt:=bf) (u:=u) (e:=ak) (d:=aq) hk');have CX:=CM L[k].u (HS _ (aV hk'));generalize L[k]=x at*;obtain⟨i1,i2⟩:=ln (k:=k) (m:=m) om;obtain⟨HBk,HO⟩:=eN hb ho;obtain⟨c0,c1⟩:=xV c0w c1w wr hb;have E1:(x.u.toList==u.toList)=decide (x.u=u):=gS;have HE2:=H (show [Value.string u,Z A0 n0 p0]=UC.cs ak by rw[HE.out];rfl);clear ho;cases aq
   ·obtain⟨c,hc⟩:∃ c,c=ir u x.u:=⟨_,D⟩;rw[<-hc] at CX;replace CX:=H CX;by_cases hbf:bf u x.u=Q
    ·have hxu:x.u≠u:=λe=>by rw[e,gj] at hbf;cases hbf
     have j1:c<0:=by rw[hc,oO hbf];decide
     rw[aC hxu] at E1;have FN:=H (show(O++[ak]++[x])++iV UC.u bf u ak Q (L.drop (k+1))=iV UC.u bf u ak D0 L by rw[<-hO.out,PD.out,aA ⟨D,hbf⟩,az hxu];simp);clear hbf hxu hc
     go_upto_region 9 with(first | (go_at_call 108;refine qx (CX _) λw5 hb5=>?_;have H5:=H (HBk.ca hb5);obtain⟨d0,d1⟩:=xV c0w c1w w5 H5;have HO5:=H (HO.bl hb5)) | (at_builtin;refine fH uM D _ _ D w.heap.size D (HO5.bl (gl _ _)) D (eL _ _) (y:=ak) HE2 D (qm _) om (H5.al _).size ?_;intro v7 w7 ho7 hb7))
     obtain⟨H7,HO7⟩:=eN (hb7 w D (H5.al _)) ho7;obtain⟨q0,q1⟩:=xV c0w c1w w7 H7
     go_wp2_with (at_builtin;refine fH uM D _ _ D w.heap.size D (HO7.bl (gl _ _)) D (eL _ _) (y:=x) D D (qm _) eC (H7.al _).size ?_;intro v8 w8 ho8 hb8)
     exact⟨⟨k+1,hlt,eB,_,_,D,ho8,FN,eC,hb8 w D (H7.al _)⟩,eE⟩
    ·have j1:¬c<0:=by have:=Hh (a:=u) (b:=x.u) (by simpa using hbf);omega
     by_cases hxu:x.u=u
     ·rw[aF hxu] at E1;have FN:=H (show(O++[ak])++iV UC.u bf u ak Q (L.drop (k+1))=iV UC.u bf u ak D0 L by rw[<-hO.out,PD.out,az (λh=>hbf h.2),aA hxu];simp);clear hbf hxu hc
      go_wp2_with (first | (go_at_call 108;refine qx (CX _) λw5 hb5=>?_;have H5:=H (HBk.ca hb5);obtain⟨d0,d1⟩:=xV c0w c1w w5 H5;have HO5:=H (HO.bl hb5)) | (at_builtin;refine fH uM D _ _ D w.heap.size D (HO5.bl (gl _ _)) D (eL _ _) (y:=ak) HE2 D (qm _) om (H5.al _).size ?_;intro v7 w7 ho7 hb7))
      exact nQ
     ·rw[aC hxu] at E1;have FN:=H (show(O++[x])++iV UC.u bf u ak z (L.drop (k+1))=iV UC.u bf u ak D0 L by rw[<-hO.out,PD.out,az (λh=>hbf h.2),az hxu];simp);clear hbf hxu hc
      go_wp2_with (first | (go_at_call 108;refine qx (CX _) λw5 hb5=>?_;have H5:=H (HBk.ca hb5);obtain⟨d0,d1⟩:=xV c0w c1w w5 H5;have HO5:=H (HO.bl hb5)) | (at_builtin;refine fH uM D _ _ D w.heap.size D (HO5.bl (gl _ _)) D (eL _ _) (y:=x) D D (qm _) om (H5.al _).size ?_;intro v7 w7 ho7 hb7))
      exact nQ
   ·by_cases hxu:x.u=u
    ·rw[aF hxu] at E1;have FN:=H (show O++iV UC.u bf u ak Q (L.drop (k+1))=iV UC.u bf u ak D0 L by rw[<-hO.out,PD.out,az (λh=>by cases h.1),aA hxu];simp);clear hxu
     go_wp2_with fail
     exact⟨⟨k+1,hlt,eB,_,_,D,HO,FN,om,HBk⟩,eE⟩
    ·rw[aC hxu] at E1;have FN:=H (show(O++[x])++iV UC.u bf u ak Q (L.drop (k+1))=iV UC.u bf u ak D0 L by rw[<-hO.out,PD.out,az (λh=>by cases h.1),az hxu];simp);clear hxu
     go_wp2_with (at_builtin;refine fH uM D _ _ D w.heap.size D (HO.bl (gl _ _)) D (eL _ _) (y:=x) D D (qm _) om (HBk.al _).size ?_;intro v7 w7 ho7 hb7)
     exact aby
  ·have ek:k=m:=om;have i1:¬(k:Int)<m:=om;obtain⟨HBk,HO,FN,HE2⟩:=kB hb ho (show O++iV UC.u bf u ak aq []=iV UC.u bf u ak D0 L by have h1:=hO.out;rw[ek,HM.out,bX] at h1;exact h1) (show [Value.string u,Z A0 n0 p0]=UC.cs ak by rw[HE.out];rfl);clear ho hO;cases aq
   all_goals
    go_wp2_with (at_builtin;refine fH uM D _ _ D w.heap.size D (HO.bl (gl _ _)) D (eL _ _) (y:=ak) HE2 D (qm _) om (HBk.al _).size ?_;intro v7 w7 ho7 hb7)
    go_ret
    first
     | exact⟨_,D,by rw[<-FN.out];exact ho7.iD,hb7 w D (HBk.al _)⟩
     | exact⟨_,D,by rw[<-FN.out];simpa[iV] using HO.iD,HBk⟩
theorem Gl (L)(u:ay)(t:Int)(v)(b:Nat)(w)(h:Rw gb.cs 202 2 w b v L)(hn:L.length<=40000)(hu:u.size<=1000000)(hS:∀ x∈L,x.u.size<=1000000):
 Calls prog 68 #[v,C u,I J t] w λe w'=>∃ v',e= .returned v'/\Rw gb.cs 202 2 w' 0 v' (qo bf u t z L)/\Bl w w':=by
 have CM:=H (λ(x:ay) (hx:x.size<=1000000) W=>QD u x W om om);obtain⟨A,cap,rfl,hnc,hcap⟩:=h.form;obtain⟨m,hm,HM⟩:=nh L.length;rw[<-hm] at h hnc hn ⊢;obtain⟨HR,HS⟩:=eN h hS;clear h hm hS hu
 go_enter func68,ntmps68
 go_wp2_with fail
 go_loopw [9,7,8] (λi o d wr=>∃ k:Nat,k<=m/\i= I J k/\∃ (O:List gb) (aq:Bool),d= .bool aq/\Rw gb.cs 202 2 wr w.heap.size o O/\Hid (O++qo bf u t aq (L.drop k)=qo bf u t z L)/\O.length<=2*k/\Bl w wr) (λi _ _ _=>m - (intOf i).toNat)
 case atStart=>exact⟨0,aD _,D,[],z,D,Rw.nil,H sm,aD _,Bl.eH⟩
 case round=>
  obtain⟨k,hk,rfl,O,aq,rfl,ho,hO,hlen,hb⟩:=hrel;by_cases hlt:k<m
  ·have hk':k<L.length:=by rw[<-HM.out];exact hlt
   obtain⟨g,rfl,_,_,c0w,c1w⟩:=HR.Cm (f:=gb.cs) (c0:=λx=>C x.u) (c1:=λx=>I J x.t) (λ_=>rfl) k hk';have PD:=H (MU (lt:=bf) (u:=u) (t:=t) (d:=aq) hk');have CX:=CM L[k].u (HS _ (aV hk'));generalize L[k]=x at*;obtain⟨i1,i2⟩:=ln (k:=k) (m:=m) om;obtain⟨HBk,HO⟩:=eN hb ho;obtain⟨c0,c1⟩:=xV c0w c1w wr hb;have E1:(x.u.toList==u.toList)=decide (x.u=u):=gS;clear ho;cases aq
   ·obtain⟨c,hc⟩:∃ c,c=ir u x.u:=⟨_,D⟩;rw[<-hc] at CX;replace CX:=H CX;by_cases hbf:bf x.u u=Q
    ·have hxu:x.u≠u:=λe=>by rw[e,gj] at hbf;cases hbf
     have j1:¬c<=0:=by rw[hc,pT hbf];decide
     rw[aC hxu] at E1;have FN:=H (show(O++[x])++qo bf u t z (L.drop (k+1))=qo bf u t z L by rw[<-hO.out,PD.out,az (λh=>by rw[hbf] at h;cases h.2),az hxu];simp);clear hbf hxu hc
     go_wp2_with (first | (go_at_call 108;refine qx (CX _) λw5 hb5=>?_;have H5:=H (HBk.ca hb5);obtain⟨d0,d1⟩:=xV c0w c1w w5 H5;have HO5:=H (HO.bl hb5)) | (at_builtin;refine fH xh D _ _ D w.heap.size D (HO5.bl (gl _ _)) D (eL _ _) (y:=x) D D (mB _) om (H5.al _).size ?_;intro v7 w7 ho7 hb7))
     exact nQ
    ·have hbf':bf x.u u=z:=by simpa using hbf
     have j1:c<=0:=by
      rw[hc];by_cases h2:bf u x.u=Q
      ·rw[oO h2];decide
      ·rw[uw (by simpa using h2) hbf'];decide
     by_cases hxu:x.u=u;rw[aF hxu] at E1;have FN:=H (show(O++[(⟨u,t⟩:gb)])++qo bf u t Q (L.drop (k+1))=qo bf u t z L by rw[<-hO.out,PD.out,aA ⟨D,hbf'⟩,aA hxu];simp);rotate_left;rw[aC hxu] at E1;have FN:=H (show(O++[(⟨u,t⟩:gb)]++[x])++qo bf u t Q (L.drop (k+1))=qo bf u t z L by rw[<-hO.out,PD.out,aA ⟨D,hbf'⟩,az hxu];simp);rotate_left
     all_goals
      clear hbf hbf' hxu hc
      go_upto_region 9 with(first | (go_at_call 108;refine qx (CX _) λw5 hb5=>?_;have H5:=H (HBk.ca hb5);obtain⟨d0,d1⟩:=xV c0w c1w w5 H5;have HO5:=H (HO.bl hb5)) | (at_builtin;refine fH xh D _ _ D w.heap.size D (HO5.bl (gl _ _)) D (eL _ _) (y:=(⟨u,t⟩:gb)) D D (mB _) om (H5.al _).size ?_;intro v7 w7 ho7 hb7))
      obtain⟨H7,HO7⟩:=eN (hb7 w D (H5.al _)) ho7;obtain⟨q0,q1⟩:=xV c0w c1w w7 H7
     ·go_wp2_with fail
      exact⟨⟨k+1,hlt,eB,_,_,D,HO7,FN,eC,H7⟩,eE⟩
     ·go_wp2_with (at_builtin;refine fH xh D _ _ D w.heap.size D (HO7.bl (gl _ _)) D (eL _ _) (y:=x) D D (mB _) eC (H7.al _).size ?_;intro v8 w8 ho8 hb8)
      exact⟨⟨k+1,hlt,eB,_,_,D,ho8,FN,eC,hb8 w D (H7.al _)⟩,eE⟩
   ·by_cases hxu:x.u=u
    ·rw[aF hxu] at E1;have FN:=H (show O++qo bf u t Q (L.drop (k+1))=qo bf u t z L by rw[<-hO.out,PD.out,az (λh=>by cases h.1),aA hxu]);clear hxu
     go_wp2_with fail
     exact⟨⟨k+1,hlt,eB,_,_,D,HO,FN,om,HBk⟩,eE⟩
    ·rw[aC hxu] at E1;have FN:=H (show(O++[x])++qo bf u t Q (L.drop (k+1))=qo bf u t z L by rw[<-hO.out,PD.out,az (λh=>by cases h.1),az hxu];simp);clear hxu
     go_wp2_with (at_builtin;refine fH xh D _ _ D w.heap.size D (HO.bl (gl _ _)) D (eL _ _) (y:=x) D D (mB _) om (HBk.al _).size ?_;intro v7 w7 ho7 hb7)
     exact aby
  ·have ek:k=m:=om;have i1:¬(k:Int)<m:=om;obtain⟨HBk,HO,FN⟩:=gi hb ho (show O++qo bf u t aq []=qo bf u t z L by have h1:=hO.out;rw[ek,HM.out,bX] at h1;exact h1);clear ho hO;cases aq
   all_goals
    go_wp2_with (at_builtin;refine fH xh D _ _ D w.heap.size D (HO.bl (gl _ _)) D (eL _ _) (y:=(⟨u,t⟩:gb)) D D (mB _) om (HBk.al _).size ?_;intro v7 w7 ho7 hb7)
    go_ret
    first
     | exact⟨_,D,by rw[<-FN.out];exact ho7.iD,hb7 w D (HBk.al _)⟩
     | exact⟨_,D,by rw[<-FN.out];simpa[qo] using HO.iD,HBk⟩
theorem Lt {L:List Ev}(hk:k<L.length)(h:mo (L.drop (k+1)) u=z)(hn:¬(L[k].kind=7/\L[k].user=u)):mo (L.drop k) u=z:=by
 rw[aR hk];unfold mo at h ⊢;rw[bL,aC hn,h];rfl
theorem xM (L)(u:ay)(v)(b:Nat)(w)(h:Rw Ev.cs 26 6 w b v L):
 aai 25 #[v,C u] w (I J (mz L u:Nat)):=by
 obtain⟨A,cap,rfl,hnc,hcap⟩:=h.form;obtain⟨m,hm,HM⟩:=nh L.length;rw[<-hm] at h hnc ⊢;have HR:=H h;obtain⟨R,hR,HRR⟩:=nh (mz L u);rw[<-hR];have e0:IntKind.i64.wrap ((m:Int) - 1)=(m:Int) - 1:=by rw[jh om]
 clear h hm hR
 go_enter func25,ntmps25
 go_wp2_with fail
 go_loop [5] (λi=>∃ j:Nat,j<=m/\i= I J ((j:Int) - 1)/\Hid (mo (L.drop j) u=z)) (λi=>(intOf i+1).toNat)
 case atStart=>exact⟨m,aB _,eB,H (by rw[HM.out,bX];rfl)⟩
 case round=>
  obtain⟨j,hj,rfl,hd⟩:=hrel;cases j with
  | zero=>
   have HQ:=H (show R=0 by rw[HRR.out];exact Ci L u (by have h1:=hd.out;rwa[cW] at h1));rw[show(((0:Nat):Int) - 1)= -1 by decide];clear hd;exact ku
  | succ k=>
   rw[show(((k+1:Nat):Int) - 1)=(k:Int) by omega];have hk':k<L.length:=by rw[<-HM.out];exact hj
   obtain⟨g,rfl,_,_,c0,c1,c2,c3,c4,c5⟩:=HR.FK k hk';obtain⟨ED,BA⟩:=eN (Lt (u:=u) hk' hd) (λh1 h2=>QU (u:=u) hk' h1 h2 hd);generalize L[k]=x at*;have hb0:=br w;obtain⟨i1,i2⟩:=ln (k:=k) (m:=m) om;have i3:(k:Int)≥0:=i2;have i4:IntKind.i64.wrap ((k:Int) - 1)=(k:Int) - 1:=by rw[jh om]
   have E2:(x.user.toList==u.toList)=decide (x.user=u):=gS;clear hd;by_cases h1:x.kind=7
   ·have e1:(x.kind==7)=Q:=by simp[h1]
    by_cases h2:x.user=u
    ·rw[aF h2] at E2;have HQ:=H (show R=k+1 by rw[HRR.out];exact BA h1 h2);clear h1 h2
     go_wp2_with fail
     go_ret;exact⟨by rw[HQ.out];go_num,Bl.eH⟩
    ·rw[aC h2] at E2;have HQ:=H (ED (λhh=>h2 hh.2));clear h1 h2
     go_wp2_with fail
     exact⟨⟨k,om,eB,HQ⟩,fV⟩
   ·have e1:(x.kind==7)=z:=by simp[h1]
    have HQ:=H (ED (λhh=>h1 hh.1));clear h1
    go_wp2_with fail
    exact⟨⟨k,om,eB,HQ⟩,fV⟩
theorem LG {L:List Ev}{n now:Int}(hj:j<L.length):mM (L.drop j) n now=if(L[j].kind=2∨L[j].kind=3)/\L[j].n=n then L[j].time else mM (L.drop (j+1)) n now:=by
 rw[aR hj,mM]
theorem NJ (L)(k:Nat)(now:Int)(v)(b:Nat)(w)(h:Rw Ev.cs 26 6 w b v L)(hk:k<L.length):
 aai 29 #[v,I J k,I J now] w (I J (mM (L.drop (k+1)) L[k].n now)):=by
 obtain⟨A,cap,rfl,hnc,hcap⟩:=h.form;obtain⟨m,hm,HM⟩:=nh L.length;rw[<-hm] at h hnc hk ⊢;have HR:=H h;obtain⟨g,rfl,_,_,_,_,_,_,q4,_⟩:=h.FK k om;obtain⟨n,hn⟩:=fe ((L[k]' om).n);rw[<-hn] at q4 ⊢;obtain⟨R,hR,HRR⟩:=nh (mM (L.drop (k+1)) n now);rw[<-hR];have e0:IntKind.i64.wrap ((k:Int)+1)=(k:Int)+1:=by rw[jh om]
 obtain⟨i8,i9⟩:=ln (k:=k) (m:=m) om;clear h hm hR hn
 go_enter func29,ntmps29
 go_wp2_with fail
 go_loopw [7] (λi wr=>∃ j:Nat,j<=m/\i= I J j/\Hid (R=mM (L.drop j) n now)/\Bl w wr) (λi _=>m - (intOf i).toNat)
 case atStart=>exact⟨k+1,om,eB,HRR,Bl.eH⟩
 case round=>
  obtain⟨j,hj,rfl,hd,hb⟩:=hrel;by_cases hlt:j<m
  ·have hj':j<L.length:=by rw[<-HM.out];exact hlt
   obtain⟨g',hg',_,_,c0,c1,c2,c3,c4,c5⟩:=HR.FK j hj';injection hg' with hg'
   injection hg' with hg'
   subst hg';have ED:=H (LG (n:=n) (now:=now) hj');generalize L[j]=x at*;obtain⟨i1,i2⟩:=ln (k:=j) (m:=m) om;by_cases h23:x.kind=2∨x.kind=3
   ·by_cases hnn:x.n=n;have tg0:Tg 0:=⟨⟩;rotate_left;have tg0:Tg 1:=⟨⟩;rotate_left;have HQ:=H (show R=x.time by rw[hd.out,ED.out,aA ⟨h23,hnn⟩]);have e5:(x.n==n)=Q:=by simp[hnn]
    rotate_left;have HQ:=H (show R=mM (L.drop (j+1)) n now by rw[hd.out,ED.out,az (λhh=>hnn hh.2)]);have e5:(x.n==n)=z:=by simp[hnn]
    rotate_left
    all_goals
     clear hnn hd;by_cases h2:x.kind=2;have e1:(x.kind==2)=Q:=by simp[h2]
     rotate_left;have e1:(x.kind==2)=z:=by simp[h2]
     have e3:(x.kind==3)=Q:=h23.elim (λh=>absurd h h2) (λh=>fF);rotate_left
     all_goals
      clear h2 h23
      go_upto_region 4 with fail
      refine jI (T:=Bl w) (S:=Bl w) [] hb.dr hb.dr λhT0 hS0=>?_
      try dsimp only at hT0 hS0
      refine aaa [0,1,2,3] ?_;refine td 4 ?_;refine aaa [5,6] ?_
     refine aaa [7,8,9,10,11,12] ?_;rotate_left;refine aaa [7,8,9,10] ?_;refine td 11 ?_;refine qd 12 ?_;rotate_left
     all_goals
      refine aaa [13,14,15,16,17,18] ?_;refine td 19 ?_;refine aaa [20,21,22,23] ?_;refine td 24 ?_;refine aaa [25,26] ?_;refine iU ?_;have hT:=H hT0;have HT2:=H hT
      first
       | have _:Tg 1:=tg0
         skip
       | have d1:=c1 _ HT2
      go_wp2_with fail
      first
       | have _:Tg 1:=tg0
         exact⟨⟨j+1,om,eB,HQ,HT2⟩,eE⟩
       | go_ret
         exact⟨by rw[HQ.out];rfl,HT2⟩
   ·have HQ:=H (show R=mM (L.drop (j+1)) n now by rw[hd.out,ED.out,az (λhh=>h23 hh.1)]);have e1:(x.kind==2)=z:=by simp;exact λh=>h23 (.inl h)
    have e3:(x.kind==3)=z:=by simp;exact λh=>h23 (.inr h)
    clear h23 hd
    go_upto_region 4 with fail
    refine jI (T:=Bl w) (S:=Bl w) [] hb.dr hb.dr λhT0 hS0=>?_
    try dsimp only at hT0 hS0
    refine aaa [0,1,2,3] ?_;refine td 4 ?_;refine aaa [5,6,7,8,9,10] ?_;refine td 11 ?_;refine aaa [12,13,14,15,16,17,18,19,20,21,22,23,24,25,26] ?_;refine iU ?_;have hT:=H hT0;have HT2:=H hT
    go_wp2_with fail
    exact⟨⟨j+1,om,eB,HQ,HT2⟩,eE⟩
  ·have ej:j=m:=om;have i1:¬(j:Int)<m:=om;obtain⟨HQ,HBk⟩:=eN (show R=now by rw[hd.out,ej,HM.out,bX];rfl) hb;clear hd
   go_wp2_with fail
   go_ret;exact⟨by rw[HQ.out];rfl,HBk⟩
theorem zq (L):∀ (ak:List Int) (O:List fm),(mF L O ak).length<=O.length+ak.length
 | [],O=>by simp[mF]
 | [x],O=>by simp[mF]
 | x::y::r,O=>by
   unfold mF;have h1:=zq L (y::r) (if fY L x=Q then kW O ⟨x,y⟩ else O);have h2:(if fY L x=Q then kW O ⟨x,y⟩ else O).length<=O.length+1:=by
    split
    ·exact Aa _ _
    ·omega
   simp at h1 ⊢;omega
theorem Gm (L):(fq L).length<=2*L.length:=by
 have h1:=zq L (kZ L) [];have h2:=uo L [];unfold fq;unfold kZ at h1 ⊢;simp at h1 h2;omega
theorem Ka {L:List eP}(N)(hk:k<L.length):oJ (L.take (k+1)) N=oJ (L.take k) N++jU N L[k]:=by
 unfold oJ;rw[aL hk,bB];simp
theorem Gv {N:List fm}(x)(hj:j<N.length):jU (N.take (j+1)) x=jU (N.take j) x++(if max x.a N[j].a<min x.b N[j].b then [gh x N[j]] else []):=by
 unfold jU;rw[aL hj,List.filterMap_append]
 congr 1
 unfold jb;by_cases h:max x.a N[j].a<min x.b N[j].b
 ·rw[aA h,List.filterMap_cons_some (b:=gh x N[j]) (by rw[aA (show(gh x N[j]).ok=Q from aF h)])];rfl
 ·rw[az h,List.filterMap_cons_none (by rw[az (show ¬(gh x N[j]).ok=Q from λhh=>h (bo hh))])];rfl
theorem zC (N)(x):(jU N x).length<=N.length:=List.length_filterMap_le _ _
theorem xH (N):∀ L:List eP,(oJ L N).length<=L.length*N.length
 | []=>by simp[oJ]
 | x::r=>by
   have h1:=xH N r;have h2:=zC N x;unfold oJ at h1 ⊢;rw[bh,aU,bj,bH];omega
theorem Du (L)(B)(v u)(b b':Nat)(w)(h:Rw eP.cs 58 4 w b v L)(h':Rw fm.cs 68 2 w b' u B)(hn:L.length<=200)(hB:B.length<=100):
 Calls prog 11 #[v,u] w λe w'=>∃ v',e= .returned v'/\Rw eP.cs 58 4 w' 0 v' (jT L (fq B))/\Bl w w':=by
 have NO:=H (zw B u b' w h' om);have NL:=Gm B;obtain⟨A,cap,rfl,hnc,hcap⟩:=h.form;obtain⟨m,hm,HM⟩:=nh L.length;rw[<-hm] at h hnc hn ⊢;have HR0:=H h;have hNB:(fq B).length<=200:=om;obtain⟨N,hN⟩:=fe (fq B);rw[<-hN] at NO hNB ⊢;clear h h' hm hN
 go_enter func11,ntmps11
 go_upto_region 3 with(go_at_call 26;refine aaj NO λv5 w5 hr5 hb5=>?_)
 obtain⟨A5,c5,rfl,hnc5,_⟩:=hr5.form;obtain⟨HN,HR,HB⟩:=gi hr5 (HR0.bl hb5) hb5;obtain⟨n,hn5,HNL⟩:=nh N.length;rw[<-hn5] at hnc5 hNB ⊢;clear hn5
 go_wp2_with fail
 go_loopw [7,5] (λi o wr=>∃ k:Nat,k<=m/\i= I J k/\Rw eP.cs 58 4 wr w5.heap.size o (oJ (L.take k) N)/\Bl w5 wr) (λi _ _=>m - (intOf i).toNat)
 case atStart=>exact⟨0,aD _,D,Rw.nil,Bl.eH⟩
 case round=>
  obtain⟨k,hk,rfl,ho,hb⟩:=hrel;by_cases hlt:k<m
  ·have hk':k<L.length:=by rw[<-HM.out];exact hlt
   obtain⟨g,rfl,_,_,c0,c1,c2,c3⟩:=HR.vW (f:=eP.cs) (c0:=λx=>I J x.a) (c1:=λx=>I J x.b) (c2:=λx=>I J x.n) (c3:=λx=>I J x.st) (λ_=>rfl) k hk';have PT:=H (Ka N hk');have PL:=xH N (L.take k);have CL:=λj=>zC (N.take j) L[k];rw[aK,<-HNL.out] at PL;have PL2:(oJ (L.take k) N).length<=200*200:=aH PL (ch om hNB);generalize L[k]=x at*;obtain⟨HO,HBk⟩:=eN ho hb;obtain⟨i1,i2⟩:=ln (k:=k) (m:=m) om;clear ho;obtain⟨w1,rfl⟩:=fe wr
   go_upto_region 6 with fail
   go_wp2_with fail
   go_loopw [8,5] (λq o2 w2=>∃ j:Nat,j<=n/\q= I J j/\Rw eP.cs 58 4 w2 w5.heap.size o2 (oJ (L.take k) N++jU (N.take j) x)/\Bl w5 w2) (λq _ _=>n - (intOf q).toNat)
   case atStart=>exact⟨0,aD _,D,by simpa[jU] using HO.out,HBk⟩
   case round=>
    obtain⟨j,hj,rfl,ho2,hb2⟩:=hrel;by_cases hjl:j<n
    ·have hj':j<N.length:=by rw[<-HNL.out];exact hjl
     obtain⟨g2,rfl,_,_,d0,d1⟩:=HN.Cm (f:=fm.cs) (c0:=λx=>I J x.a) (c1:=λx=>I J x.b) (λ_=>rfl) j hj';obtain⟨CT,HLE⟩:=eN (Gv x hj') (show(oJ (L.take k) N++jU (N.take j) x).length+1<=1000000 by have h1:=CL j;rw[aK] at h1;rw[aU];omega);generalize N[j]=y at*;obtain⟨i3,i4⟩:=ln (k:=j) (m:=n) om;obtain⟨HO2,HB2⟩:=eN ho2 hb2;obtain⟨O,hO⟩:=fe (oJ (L.take k) N++jU (N.take j) x);rw[<-hO] at HO2 HLE;by_cases hok:max x.a y.a<min x.b y.b;have FIN:=H (show O++[gh x y]=oJ (L.take k) N++jU (N.take (j+1)) x by rw[CT.out,aA hok,hO,aS]);rotate_left;have FIN:=H (show O=oJ (L.take k) N++jU (N.take (j+1)) x by rw[CT.out,az hok,hO,aY]);rotate_left
     all_goals
      clear hO
      go_upto_region 9 with fail
      refine jI (T:=Bl w5) (S:=Bl w5) [] hb2.dr hb2.dr λhT0 hS0=>?_
      try dsimp only at hT0 hS0
      refine aaa [0,1,2,3] ?_;refine td 4 ?_;refine aaa [5,6,7,8] ?_;refine td 9 ?_;refine aaa [10,11] ?_;refine iU ?_;have hT:=H hT0;have hb3:=hT.out
      go_upto_region 10 with fail
      refine jI (T:=Bl w5) (S:=Bl w5) [] hb3.dr hb3.dr λhT0 hS0=>?_
      try dsimp only at hT0 hS0
      refine aaa [0,1,2,3] ?_;refine td 4 ?_;refine aaa [5,6,7,8] ?_;refine td 9 ?_;refine aaa [10,11] ?_;refine iU ?_;have hT:=H hT0
     focus
      have hb4:=hT.out
      go_upto_region 12 with fail
      refine jI (T:=Bl w5) (S:=Bl w5) [] hb4.dr hb4.dr λhT0 hS0=>?_
      try dsimp only at hT0 hS0
      refine aaa [0,1,2,3,4,5,6] ?_;refine td 7 ?_;refine aaa [8,9,10,11] ?_;refine td 12 ?_;refine qd 13 ?_;refine eK 14 λKQ hK=>?_;go_simp;refine jf (hK _ _) (hT0.al _) (λhT1 hA1 hM1=>?_);clear hM1
      try dsimp only at hT1
      have hS1:=hT1
      try simp only[gz,fI]
      refine eK 15 λKQ hK=>?_;rw[aA (by rfl)];refine rY (f:=eP.cs) (L:=O) (M:=[gh x y]) mq _ _ D w5.heap.size D (HO2.bl (by repeat (first | exact Bl.eH | apply Bl.dr | apply Bl.al))) D (mP (cs:=#[I J (max x.a y.a),I J (min x.b y.b),I J x.n,I J x.st]) (pv hA1 fG) D gO) D HLE hS1.size ?_;intro v9 w9 ho9 hb9 _;have hS2:=hb9 w5 D hS1;have hT3:=hS2;have hS3:=hT3;refine kq hK ?_;refine qd 16 ?_;refine iU ?_;have hL:=hS3
     rotate_left;have HB4:=H hT;rotate_left
     all_goals
      go_wp2_with fail
     ·exact⟨⟨j+1,hjl,eB,by rw[<-FIN.out];exact ho9,hL⟩,eE⟩
     ·exact⟨⟨j+1,hjl,eB,by rw[<-FIN.out];exact HO2.bl (by repeat (first | exact Bl.eH | apply Bl.dr)),HB4⟩,eE⟩
    ·have ej:j=n:=om;have i3:¬(j:Int)<n:=om;obtain⟨FIN,HO2,HB2⟩:=gi (show oJ (L.take k) N++jU (N.take j) x=oJ (L.take (k+1)) N by rw[PT.out,ej,HNL.out,aT]) ho2 hb2
     go_wp2_with fail
     exact⟨⟨k+1,hlt,eB,by rw[<-FIN.out];exact HO2,HB2⟩,eE⟩
  ·have ek:k=m:=om;have i1:¬(k:Int)<m:=om;have HBk:=H hb;rw[ek,HM.out,aT] at ho;have PL:=xH N L;have hL2:(oJ L N).length<=90000:=aH PL (aH (ch (by rw[<-HM.out];exact hn) (by rw[<-HNL.out];exact hNB)) dc);have SO:=H (Di _ _ _ wr ho hL2);clear ho hL2
   go_wp2_with (go_at_call 27;refine aaj SO λv7 w7 hr7 hb7=>?_)
   go_ret;exact⟨_,D,hr7,HB.ca (HBk.ca hb7)⟩
