/- Lemmas for AfterglowSecret: what functions of the program return; no condition. -/
import Derived.Test.YtkpdknkidnfgiaaGreatDoorJY
set_option maxHeartbeats 0
set_option maxRecDepth 100000
set_option linter.unusedVariables false
open Go.Value renaming int->I,string->C,slice->Z
open Go.IntKind renaming i64->J,u8->U
open Option renaming none->E,some->G
open Bool renaming true->Q,false->z
open Go.Lib renaming hid->H
open Go.Proofs.Tryz
namespace Go.Proofs.YtkpdknkidnfgiaaGreatDoor
theorem nO{p:Prop}(h:p:=by
 go_wp2
 go_loop [8] (λi=>i= I J 0) (λi=>0)
 case atStart=>rfl
 case round=>
  subst hrel
  go_wp2
  go_ret;exact⟨D,D⟩):p:=h
variable {lb:Array Value} {B X b c g k sz:Nat} {t:TypeId} {W w w' wr:World}
namespace Tp
open Go Go.RowKit Go.Lib Go.Sort
def prn (s:St):St:={s with us:=[],sb:=s.sb.filter λx=>!(decide (x.b<=s.fb))}
theorem Wm (s)(v)(b:Nat)(w)(h:iW w b v s)(hn:pY 60 s)(hu:s.us=[]):
 Calls prog 138 #[v] w λe w'=>∃ v',e= .returned v'/\iW w' w.heap.size v' (prn s)/\Bl w w':=by
 have CL:=H (λW (hb:Bl w W)=>pt s v b W (h.bl hb) ⟨aaQ,by have:=hn.nu;omega,iM,aaR,λy hy=>gw⟩);have SB0:=λv b W (h:Rw Sub.cs 293 4 W b v s.sb)=>R5 s.fb s.sb v b W h iM;obtain⟨F,hF⟩:=fe (s.sb.filter λx=>!(decide (x.b<=s.fb)));rw[show prn s=⟨s.now,s.fb,s.op,[],F,s.tb⟩ by rw[hF];rfl];rw[<-hF] at SB0;have SB:=H SB0;clear hF;obtain⟨vo,vu,vs,vt,ul,rfl,hr0⟩:=h;unfold jd at CL ⊢;obtain⟨⟨Ao,no,co,rfl⟩,⟨Au,nu,cu,rfl⟩,⟨As,ns,cs,rfl⟩,At,nt,ct,rfl⟩:=hr0.nr;obtain⟨A,W0,hA,hW0,BA,BY,HB,HAw,SV⟩:=lj w #[I J s.now,I J s.fb,Z Ao no co,Z Au nu cu,Z As ns cs,Z At nt ct] 131 #[av,av,aw,aw,aw,aw] 131;obtain⟨a0,a1,a2,a3,a4,a5⟩:=jg BA;obtain⟨y0,y1,y2,y3,y4,y5⟩:=jg BY;obtain⟨HA,HY,HU⟩:=gi BA BY hu;clear hu hn;have hb0:=br W0;have ff:=λW (h:Bl W0 W) j=>Bk.fr (h.bl HA) j
 go_enter func138,ntmps138
 go_upto_region 1 with fail
 rw[<-hW0,<-hA];clear hW0 hA
 go_upto_region 2 with(go_at_call 123;refine(CL _ HB).mono ?_;rintro e w1 ⟨v1,rfl,⟨vo1,vu1,vs1,vt1,ul1,rfl,hr1⟩,hb1⟩;unfold jd;obtain⟨A1,q1,c1,rfl⟩:=hr1.ho.fR;obtain⟨A2,c2,rfl,_,_⟩:=hr1.hu.form;obtain⟨A3,q3,c3,rfl⟩:=hr1.hs.fR;obtain⟨A4,q4,c4,rfl⟩:=hr1.ht.fR)
 have hz:=HB.size;have hA0:=HAw.out;have hL:=(HB.ca hb1).kO (Y:=A) om (I J s.now) (I J s.fb) (Z A1 q1 c1) (Z A2 ul1.length c2) (Z A3 q3 c3) (Z A4 q4 c4);have r1:=(hr1.kO (hb1.bl HA) (I J s.now) (I J s.fb) (Z A1 q1 c1) (Z A2 ul1.length c2) (Z A3 q3 c3) (Z A4 q4 c4)).iD hz;have k1:Bk _ A 131 #[I J s.now,I J s.fb,Z A1 q1 c1,Z A2 ul1.length c2,Z A3 q3 c3,Z A4 q4 c4]:=(((((Bk.set (hb1.bl HA) 0 (I J s.now)).set 1 (I J s.fb)).set 2 (Z A1 q1 c1)).set 3 (Z A2 ul1.length c2)).set 4 (Z A3 q3 c3)).set 5 (Z A4 q4 c4);have kf:=λ(W:World) (i:Nat) (v:Value) (k:Bk W (A+1) 131 #[av,av,aw,aw,aw,aw])=>show Bk (W.setCell ⟨A,i,E⟩ v) (A+1) 131 _ from(aa0 W ⟨A,i,E⟩ v (A+1) iJ).trans k;have y1:=kf _ 5 (Z A4 q4 c4) (kf _ 4 (Z A3 q3 c3) (kf _ 3 (Z A2 ul1.length c2) (kf _ 2 (Z A1 q1 c1) (kf _ 1 (I J s.fb) (kf _ 0 (I J s.now) (hb1.bl HY))))));unfold kS at hL r1;generalize (((((w1.setCell ⟨A,0,E⟩ (I J s.now)).setCell ⟨A,1,E⟩ (I J s.fb)).setCell ⟨A,2,E⟩ (Z A1 q1 c1)).setCell ⟨A,3,E⟩ (Z A2 ul1.length c2)).setCell ⟨A,4,E⟩ (Z A3 q3 c3)).setCell ⟨A,5,E⟩ (Z A4 q4 c4)=W1 at*;have hul:ul1.length=0:=by rw[r1.hl.1,HU.out];rfl
 rw[hul] at k1;have g1:W1.cell? ⟨A,1,E⟩=G (I J s.fb):=k1.ce 1;have g3:W1.cell? ⟨A,3,E⟩=G (Z A2 0 c2):=k1.ce 3;have g4:W1.cell? ⟨A,4,E⟩=G (Z A3 q3 c3):=k1.ce 4;obtain⟨K1,R1,HL,HY1⟩:=kB k1 r1 hL y1;replace hA0:=H hA0;clear hL hul
 go_wp2_with fail
 go_loopw [12,3] (λi o wr=>i= I J 0/\o= Z E 0 0/\wr=W1) (λ_ _ _=>0)
 case atStart=>exact⟨D,D,D⟩
 case round=>
  obtain⟨rfl,rfl,rfl⟩:=hrel
  go_upto_region 11 with(go_at_call 214;refine aaj (SB _ _ _ R1.hs) λv2 w2 hr2 hb2=>?_;obtain⟨A5,c5,rfl,_,_⟩:=hr2.form;have HK2:=H (hb2.bl K1);have h3:=Bk.ce HK2 3;have h4:=Bk.ce HK2 4;have hf:=λj=>Bk.fr HK2 j)
  have hw2:=hb2.size;have hLs:=HL.size;have r2:=R1.bl hb2;have r2':oD w2 w.heap.size (Z A1 q1 c1) aw (Z A5 F.length c5) (Z A4 q4 c4) ⟨s.now,s.fb,s.op,[],F,s.tb⟩ []:=⟨r2.ho,Rw.nil,⟨D,λj h=>absurd h sm⟩,fa hr2 om,r2.ht⟩;have r3:=oD.fw (u:=Z A5 F.length c5) (oD.fw (u:=Z E 0 0) r2' HK2 3) (Bk.set HK2 3 _) 4;have k2:Bk ((w2.setCell ⟨A,3,E⟩ aw).setCell ⟨A,4,E⟩ (Z A5 F.length c5)) A 131 #[I J s.now,I J s.fb,Z A1 q1 c1,aw,Z A5 F.length c5,Z A4 q4 c4]:=Bk.put (Bk.put HK2 3 aw) 4 (Z A5 F.length c5);have hAle:w.heap.size<=A:=by rw[hA0.out];exact aB _
  have hL2:=((HL.ca hb2).st (p:=⟨A,3,E⟩) hAle aw).st (p:=⟨A,4,E⟩) hAle (Z A5 F.length c5);have kY:Bk _ (A+1) 131 _:=(aa0 (w2.setCell ⟨A,3,E⟩ aw) ⟨A,4,E⟩ (Z A5 F.length c5) (A+1) iJ).trans ((aa0 w2 ⟨A,3,E⟩ aw (A+1) iJ).trans (hb2.bl HY1));clear hLs;generalize F.length=q5 at*;generalize (w2.setCell ⟨A,3,E⟩ aw).setCell ⟨A,4,E⟩ (Z A5 q5 c5)=W2 at*;obtain⟨g0,g1,g2,g3,g4,g5⟩:=Bk.f6 k2;obtain⟨e0,e1,e2,e3,e4,e5⟩:=Bk.f6 kY;have ef:=λj=>Bk.fr kY j;obtain⟨R2,KY,HL2,HAle⟩:=kB r3 kY hL2 hAle;clear hL2 kY hAle
  go_wp2_with fail
  exact aa1 (eS (p:=2) D _ _ _ _ _ _ _ D (Bk.s6 KY _ _ _ _ _ _) underlying131 D iy) D ⟨_,D,⟨_,_,_,_,_,D,R2.kO KY _ _ _ _ _ _⟩,HL2.kO (Nat.le_succ_of_le HAle) _ _ _ _ _ _⟩
end Tp
namespace Tp
open Go Go.RowKit Go.Lib
theorem TH (A)(c:Nat)(f:Value)(w):Calls prog 322 #[Z A 0 c,f] w λe w'=>e= .returned (I J (-1))/\w=w':=by
 go_enter func322,ntmps322
 exact nO
theorem Uo (A)(c:Nat)(f:Value)(w):Calls prog 392 #[Z A 0 c,f] w λe w'=>e= .returned (.bool z)/\w=w':=by
 have IX:=H (TH A c f)
 go_enter func392,ntmps392
 go_wp2_with (go_at_call 322;refine QS (IX _) ?_)
 go_ret;exact⟨D,D⟩
theorem TF (A)(c:Nat)(f:Value)(w):Calls prog 383 #[Z A 0 c,f] w λe w'=>e= .returned (I J (-1))/\w=w':=by
 go_enter func383,ntmps383
 exact nO
theorem Um (A)(c:Nat)(f:Value)(w):Calls prog 399 #[Z A 0 c,f] w λe w'=>e= .returned (.bool z)/\w=w':=by
 have IX:=H (TF A c f)
 go_enter func399,ntmps399
 go_wp2_with (go_at_call 383;refine QS (IX _) ?_)
 go_ret;exact⟨D,D⟩
theorem TG (A)(c:Nat)(f:Value)(w):Calls prog 325 #[Z A 0 c,f] w λe w'=>e= .returned (I J (-1))/\w=w':=by
 go_enter func325,ntmps325
 exact nO
theorem Un (A)(c:Nat)(f:Value)(w):Calls prog 401 #[Z A 0 c,f] w λe w'=>e= .returned (.bool z)/\w=w':=by
 have IX:=H (TG A c f)
 go_enter func401,ntmps401
 go_wp2_with (go_at_call 325;refine QS (IX _) ?_)
 go_ret;exact⟨D,D⟩
theorem Y7 (p:gb->Bool)(eg:∀ args w,(callFunc g args).run prog w= .ok (.enter g args) w){v:Value}{L:List gb}(w:World)
 (hp:PredBelow prog g lb (λx=>.agg (gb.cs x).toArray) p w) (h:Rw gb.cs 244 2 w b v L) (hn:L.length<=100000):
 aai 146 #[v,.func (.func g) #[] lb] w (.bool (decide (lH p L≥0))):=by
 have IX:=H (ixfTomb (λ_=>rfl) p eg w hp h hn);clear eg hp
 go_enter func146,ntmps146
 go_wp2_with (go_at_call 218;refine qx IX λw1 hb1=>?_)
 go_ret;exact⟨D,hb1⟩
theorem riU (A)(c:Nat)(f:Value)(w):Calls prog 398 #[Z A 0 c,f] w λe w'=>e= .returned (.bool Q)/\w=w':=by
 go_enter func398,ntmps398
 go_wp2_with fail
 go_loopw [9] (λi wr=>i= I J 0/\wr=w) (λ_ _=>0)
 case atStart=>exact⟨D,D⟩
 case round=>
  obtain⟨rfl,rfl⟩:=hrel;exact gN
theorem riO (A)(c:Nat)(w):Calls prog 397 #[Z A 0 c] w λe w'=>e= .returned (.bool Q)/\w=w':=by
 go_enter func397,ntmps397
 go_wp2_with fail
 go_loopw [8] (λi wr=>i= I J 0/\wr=w) (λ_ _=>0)
 case atStart=>exact⟨D,D⟩
 case round=>
  obtain⟨rfl,rfl⟩:=hrel;exact gN
theorem riS (A)(c:Nat)(w):Calls prog 400 #[Z A 0 c] w λe w'=>e= .returned (.bool Q)/\w=w':=by
 go_enter func400,ntmps400
 go_wp2_with fail
 go_loopw [7] (λi wr=>i= I J 0/\wr=w) (λ_ _=>0)
 case atStart=>exact⟨D,D⟩
 case round=>
  obtain⟨rfl,rfl⟩:=hrel;exact gN
theorem AN (n lo hi:Int)(w):Calls prog 393 #[I J n,I J lo,I J hi] w λe w'=>e= .returned (.bool (iP n lo hi))/\w=w':=by
 have HE:=H (show iP n lo hi=(decide (lo<=n)&&decide (n<=hi)) from rfl);by_cases h1:lo<=n;have d1:decide (lo<=n)=Q:=aF h1;rotate_left;have d1:decide (lo<=n)=z:=aC h1;rotate_left
 all_goals
  rw[d1] at HE
  go_enter func393,ntmps393
  exact ib
theorem riT{A}(x:gb)(w)(h:Rw gb.cs 244 2 w b (Z A 1 c) [x])(hx:gD x.u=Q):aai 402 #[Z A 1 c,.func (.func 338) #[] #[]] w (.bool Q):=by
 obtain⟨g,rfl,_,_,c0,c1⟩:=Rw.Cm (c0:=λx:gb=>C x.u) (c1:=λx:gb=>I J x.t) (λ_=>rfl) h 0 sm;have q0:w.cell? ⟨g,0,E⟩=G (C x.u):=by simpa using c0 w Bl.eH
 have q1:w.cell? ⟨g,1,E⟩=G (I J x.t):=by simpa using c1 w Bl.eH
 have hz:=gA hx;have NMT:=H (λW=>Oz x W);have NR0:=λW=>kj x.u W om;rw[hx] at NR0;have NR:=H NR0;obtain⟨u,a⟩:=x;clear h hx hz
 go_enter func402,ntmps402
 go_wp2_with fail
 go_loopw [9] (λi wr=>∃ k:Nat,k<=1/\i= I J k/\Bl w wr) (λi _=>1 - (intOf i).toNat)
 case atStart=>exact⟨0,om,D,Bl.eH⟩
 case round=>
  obtain⟨k,hk,rfl,hb⟩:=hrel;rcases bZ k 1 with h1 | h1
  ·obtain rfl:k=0:=om;have r0:=hb.ce q0;have r1:=hb.ce q1;have HBr:=H hb
   go_upto_region 4 with fail
   obtain⟨V,X,hV,hX,BX,LV⟩:=iC wr #[C u,I J a] 244;rw[<-hV,<-hX];clear hV;replace hX:=H hX;obtain⟨x0,x1⟩:=ni BX;have x0':=Bk.all BX 0 D;have x1':=Bk.all BX 1 D;have hb:=br V;refine jI (T:=Bl V) (S:=Bl V) [] hb.dr hb.dr λhT0 hS0=>?_
   try dsimp only at hT0 hS0
   refine qd 0 ?_;refine td 1 ?_;refine eK 2 λKQ hK=>?_;go_simp
   (go_at_call 338;refine qx (NMT _) λw5 hb5=>?_)
   have hT1:=hT0.ca hb5;have hS1:=hS0.ca hb5;refine kq hK ?_;refine eK 3 λKQ hK=>?_;go_simp
   (go_at_call 23;refine QS (NR _) ?_)
   have hT2:=hT1.ca Bl.eH;have hS2:=hS1.ca Bl.eH;refine kq hK ?_;refine aaa [4,5,6,7,8,9,10,11,12,13,14,15,16,17,18,19,20,21,22] ?_;refine iU ?_;have hT:=H hT2;have HT:=H (show Bl V w5 from hT.out)
   go_wp2_with fail
   exact⟨⟨1,om,eB,HBr.ca (LV.ca HT)⟩,fV⟩
  ·obtain rfl:k=1:=om;have HBr:=H hb
   go_wp2_with fail
   go_ret;exact⟨D,HBr⟩
theorem rc5(now:Int)(W:World)(x)(hX:W.cell? ⟨X,0,E⟩=G (I J now)):aai 396 #[.agg (gb.cs x).toArray,.pointer (G ⟨X,0,E⟩)] W (.bool (!(iP x.t 0 now))):=by
 have SW:=H (λW=>AN x.t 0 now W);obtain⟨u,a⟩:=x;show Calls prog 396 #[.agg #[C u,I J a],.pointer (G ⟨X,0,E⟩)] W _;have hX1:=(gl W (.cells #[C u,I J a] 244)).ce hX;clear hX
 go_enter func396,ntmps396
 go_wp2_with (go_at_call 393;refine QS (SW _) ?_)
 go_ret;exact⟨D,gl _ _⟩
theorem ptc(u)(W:World)(x)(hX:W.cell? ⟨X,0,E⟩=G (C u)):aai 147 #[.agg (gb.cs x).toArray,.pointer (G ⟨X,0,E⟩)] W (.bool (decide (x.u=u))):=by
 obtain⟨y,a⟩:=x;show Calls prog 147 #[.agg #[C y,I J a],.pointer (G ⟨X,0,E⟩)] W _;have hX1:=(gl W (.cells #[C y,I J a] 244)).ce hX;have E1:(y.toList==u.toList)=decide (y=u):=gS;clear hX
 go_enter func147,ntmps147
 go_wp2
 go_ret;exact⟨D,gl _ _⟩
theorem VW (now fb:Int)(x:gb)(v)(b:Nat)(w)(h:iW w b v ⟨now,fb,[],[],[],[x]⟩)(h1:iP now 0 1099511627775=Q)(h2:iP fb 0 1099511627775=Q)(h3:iP x.t 0 now=Q)(h4:gD x.u=Q):
 aai 341 #[v] w (.bool Q):=by
 obtain⟨vo,vu,vs,vt,ul,rfl,hr⟩:=h;unfold jd;obtain⟨A1,c1,rfl,_,_⟩:=hr.ho.form;obtain⟨A2,c2,rfl,_,_⟩:=hr.hu.form;obtain⟨A3,c3,rfl,_,_⟩:=hr.hs.form;obtain⟨A4,c4,rfl,_,_⟩:=hr.ht.form;have hul:ul.length=0:=hr.hl.1;rw[hul];simp only[b8,bj,aZ];have SW1:=λW=>AN now 0 1099511627775 W;rw[h1] at SW1;have SW2:=λW=>AN fb 0 1099511627775 W;rw[h2] at SW2;replace SW1:=H SW1;replace SW2:=H SW2;obtain⟨CS,CU,CB,RU⟩:=kB Uo Um Un riU;obtain⟨RO,RB,RT,HIX⟩:=kB riO riS (λW (hW:Bl w W)=>riT x W (hr.ht.bl hW) h4) (show decide (lH (λy:gb=>!(iP y.t 0 now)) [x]≥0)=z by unfold lH gU;simp[h3,gU]);have ht1:Rw gb.cs 244 2 w b (Z A4 1 c4) [x]:=hr.ht;have CT:=H (λW (hW:Bl w W) (X:Nat) (hX:W.cell? ⟨X,0,E⟩=G (I J now))=>Y7 (λy=>!(iP y.t 0 now)) Tryz.call396 W (nK (enc:=gb.cs) (p:=λy=>!(iP y.t 0 now)) (λW x h=>rc5 now W x h) hX).2 (ht1.bl hW) sm);obtain⟨X,V0,hX,hV0,BX,HB,HXw,SV⟩:=gC w #[I J now,I J fb,Z A1 0 c1,Z A2 0 c2,Z A3 0 c3,Z A4 1 c4] 131;obtain⟨x0,x1,x2,x3,x4,x5⟩:=jg BX;have hb0:=br V0;have HX:=H BX;clear hr h1 h2 h3 h4 hul
 go_enter func341,ntmps341
 go_upto_region 1 with fail
 rw[<-hV0,<-hX];clear hV0 hX
 go_upto_region 3 with fail
 obtain⟨V3,F,hV3,hF,BF,LV3⟩:=iC V0 #[.func (.func 390) #[] #[.pointer (G ⟨X,0,E⟩)]] 228;rw[<-hV3,<-hF];clear hV3;replace hF:=H hF;have f0:=BF.all 0 D;have hb3:Bl V0 V3:=LV3.out;have X0:∀ W,Bl V0 W->W.cell? ⟨X,0,E⟩=G (I J now):=x0
 go_upto_region 8 with(first | (go_at_call 393;with_reducible refine QS (SW1.out _) ?_) | (go_at_call 393;with_reducible refine QS (SW2.out _) ?_) | (go_at_call 397;with_reducible refine QS (RO.out _ _ _) ?_) | (go_at_call 392;with_reducible refine QS (CS.out _ _ _ _) ?_))
 go_upto_region 10 with(first | (go_at_call 398;refine QS (RU _ _ _ _) ?_) | (go_at_call 399;refine QS (CU _ _ _ _) ?_) | (go_at_call 400;refine QS (RB _ _ _) ?_) | (go_at_call 401;refine QS (CB _ _ _ _) ?_))
 go_wp2_with (first | (go_at_call 402;refine qx (RT _ (HB.ca LV3)) λw8 hb8=>?_;have x0'':=X0 w8 (hb3.ca hb8);have h38:=hb3.ca hb8) | (go_at_call 146;refine qx (CT _ (HB.ca (LV3.ca hb8)) X x0'') λw9 hb9=>?_;rw[HIX.out]))
 go_ret;exact⟨D,HB.ca (LV3.ca (hb8.ca hb9))⟩
end Tp
namespace Tp
open Go Go.RowKit Go.Lib CrcM FrM SgM
def vi (f:UInt8×ay):List Value:=[I U (f.1.toNat:Nat),C f.2]
theorem Po:(prog.info? 217).map (λi=>(i.zero,i.size,i.bytes))=G (G (.agg #[I U 0,ax]),2,24):=kr
theorem Yc:Ty 360 217 2 24:=⟨underlying360,fz Po D,dc,dc⟩
theorem Pm:(prog.info? 217).map (·.size)=G 2:=kr
theorem UT(k:UInt8)(s)(h:Bk W g 217 #[I U (k.toNat:Nat),C s])(hb:b<=g):Rw vi 217 2 W b (Z (G ⟨g,0,E⟩) 1 1) [(k,s)]:=
 ⟨by simp[vi],.inr ⟨g,1,_,D,hb,h,aB _,eQ,sm,by simp[vi]⟩⟩
theorem Eg (k:UInt8)(F)(v)(w)(h:eO w v F)(hl:F.length<=1000)(hF:∀ s∈F,s.size<=1000000):
 aai 342 #[I U (k.toNat:Nat),v] w (.agg #[I U (k.toNat:Nat),C (gR F)]):=by
 have LN:=H (λW (hW:Bl w W)=>kV F v W (h.below hW) om hF);obtain⟨A,cap,rfl,hc⟩:=h;clear hc;generalize gR F=t at*;generalize F.length=n at*;generalize (k.toNat:Nat)=kk at*;obtain⟨Y,V,hY,hV,BY,HB,HYw,SV⟩:=gC w #[I U 0,ax] 217;obtain⟨y0,y1⟩:=ni BY;have HY:=H BY;clear hl hF
 go_enter func342,ntmps342
 go_upto_region 1 with fail
 rw[<-hV,<-hY];clear hV hY
 go_wp2_with (go_at_call 54;refine qx (LN _ HB) λw1 hb1=>?_;have HK:=H (Bl.bl hb1 HY);obtain⟨z0,z1⟩:=Zc HK;have zf:=λj=>Bk.fr HK j)
 exact aa1 (eS (p:=4) D _ _ _ _ _ _ _ D (Bk.put (Bk.put HK 0 _) 1 _) underlying217 D Pm) D ⟨D,((HB.ca hb1).st (p:=⟨Y,0,E⟩) fD _).st (p:=⟨Y,1,E⟩) fD _⟩
theorem YN (k:UInt8)(kk:Int)(hk:((k.toNat:Nat):Int)=kk)(s:ay)(hs:s.size<=1000000)(W:World):Calls prog 342 #[I U kk,Z (G ⟨W.heap.size,0,E⟩) 1 1] (W.alloc (.cells #[C s] 9)) λe w'=>e= .returned (.agg #[I U kk,C (gR [s])])/\Bl (W.alloc (.cells #[C s] 9)) w':=by
 subst hk;exact Eg k [s] _ _ (lL [s] (eL _ _) D D sm) sm (λt ht=>by rw[bP.1 ht];exact hs)
structure Fs (V:World)(X:Nat)(u:ay)(t:Int)(w:World):Prop where
 bl:Bl V w
 bk:Bk w X 244 #[C u,I J t]
section
variable {V w w':World}{X:Nat}{u:ay}{t:Int}
theorem Fs.ca (h:Fs V X u t w)(hb:Bl w w'):Fs V X u t w':=⟨h.bl.ca hb,hb.bl h.bk⟩
theorem Fs.dr (h:Fs V X u t w):Fs V X u t w.drew:=h.ca Bl.eH.dr
theorem Fs.al (h:Fs V X u t w)(o):Fs V X u t (w.alloc o):=h.ca (gl _ _)
end
def fmL (now fb:Int)(x:gb):List (UInt8×ay):=[(109,gR [eD now,eD fb]),(116,gR [x.u,eD x.t]),(122,gR [eD 2])]
theorem TZ (now fb:Int)(x:gb)(v)(b:Nat)(w)(h:iW w b v ⟨now,fb,[],[],[],[x]⟩)(h1:iP now 0 1099511627775=Q)(h2:iP fb 0 1099511627775=Q)(h3:iP x.t 0 now=Q)(h4:gD x.u=Q)(hg:Gb w):
 Calls prog 273 #[v] w λe w'=>∃ v',e= .returned v'/\Rw vi 217 2 w' 0 v' (fmL now fb x)/\Bl w w':=by
 have RI:=H (λW (hW:Bl w W)=>VW now fb x v b W (by obtain⟨vo,vu,vs,vt,ul,e,hr⟩:=h;exact⟨vo,vu,vs,vt,ul,e,hr.bl hW⟩) h1 h2 h3 h4);obtain⟨vo,vu,vs,vt,ul,rfl,hr⟩:=h;unfold jd at RI ⊢;obtain⟨A1,c1,rfl,_,_⟩:=hr.ho.form;obtain⟨A2,c2,rfl,_,_⟩:=hr.hu.form;obtain⟨A3,c3,rfl,_,_⟩:=hr.hs.form;obtain⟨A4,c4,rfl,_,_⟩:=hr.ht.form;have hul:ul.length=0:=hr.hl.1;rw[hul] at RI ⊢;simp only[b8,bj,aZ] at RI ⊢;obtain⟨g5,rfl,_,_,t0,t1⟩:=Rw.Cm (c0:=λx:gb=>C x.u) (c1:=λx:gb=>I J x.t) (λ_=>rfl) hr.ht 0 sm;have DN0:=λV (hV:Bl w V) W=>yy now V W (hg.below hV (aB _));have DH0:=λV (hV:Bl w V) W=>yy fb V W (hg.below hV (aB _));obtain⟨HST,HSN⟩:=eN (show ∀ s∈[x.u,eD x.t],s.size<=1000000 by intro s hs;have a1:=gA h4;have a2:=fg x.t;simp only[aE,aO,aQ] at hs;rcases hs with rfl | rfl<;>omega) (show ∀ s∈[eD now,eD fb],s.size<=1000000 by intro s hs;have a1:=fg now;have a2:=fg fb;simp only[aE,aO,aQ] at hs;rcases hs with rfl | rfl<;>omega);have hs2:(eD 2).size<=1000000:=by have a1:=fg 2;omega
 have D20:=λW (hW:Bl w W)=>mD 2 W (hg.below hW (aB _));obtain⟨MD,HGB⟩:=eN Eg hg;obtain⟨u,t⟩:=x;unfold fmL;dsimp only at t0 t1 HST;obtain⟨d2,hd2⟩:=fe (eD 2);rw[<-hd2] at hs2 D20 ⊢;obtain⟨D21,MZ⟩:=eN D20 (YN 122 122 dc d2 hs2);clear hd2;obtain⟨X,V,hX,hV,BX,HB,HXw,SV⟩:=gC w #[I J now,I J fb,Z A1 0 c1,Z A2 0 c2,Z A3 0 c3,Z (G ⟨g5,0,E⟩) 1 c4] 131;obtain⟨x0,x1,x2,x3,x4,x5⟩:=jg BX;obtain⟨T0,T1⟩:=xV t0 t1 V HB;have hb0:=br V;have HX:=H BX;clear hr h1 h2 h3 h4 hul hg
 go_enter func273,ntmps273
 go_upto_region 1 with fail
 rw[<-hV,<-hX];clear hV hX
 go_upto_region 4 with(go_at_call 341;refine qx (RI _ HB) λV1 hb1=>?_)
 obtain⟨HB1,HX1⟩:=eN (HB.ca hb1) (hb1.bl HX);have X0:=Bk.all HX1 0 D;have X1:=Bk.all HX1 1 D;have T0':=hb1.ce T0;have T1':=hb1.ce T1;obtain⟨DN,DH⟩:=eN (DN0 V1 HB1) (DH0 V1 HB1);refine jI (T:=Bl V1) (S:=Bl V1) [] (Bl.dr Bl.eH) (Bl.dr Bl.eH) λhT0 hS0=>?_
 try dsimp only at hT0 hS0
 refine aaa [0,1] ?_;refine td 2 ?_;refine aaa [4,5] ?_;refine td 6 ?_;refine eK 3 λKQ hK=>?_;go_simp
 (go_at_call 51;refine qx (DN _ hS0) λw2 hb2=>?_)
 have hT1:=hb2;have hS1:=hT1;refine kq hK ?_;refine eK 7 λKQ hK=>?_;go_simp
 (go_at_call 51;refine qx (DH _ hS1) λw3 hb3=>?_)
 have hT2:=hb3;have hS2:=hT2;refine kq hK ?_;refine eK 8 λKQ hK=>?_;go_simp;refine jf (hK _ _) (hT2.al _) (λhT3 hA3 hM3=>?_);clear hM3
 try dsimp only at hT3
 have hS3:=hT3
 try simp only[gz,fI]
 refine eK 9 λKQ hK=>?_;go_simp
 (go_at_call 342;refine qx (MD 109 [eD now,eD fb] _ _ (lL [eD now,eD fb] (pv hA3 fG) D D sm) sm HSN) λw5 hb5=>?_)
 replace hA3:=Bl.bl hb5 hA3;have hz5:=(Bl.ca hS3 hb5).size;have hT4:=hS3.ca hb5;have hS4:=hT4;refine kq hK ?_;refine eK 10 λKQ hK=>?_;go_simp;refine jf (hK _ _) (hT4.al _) (λhT5 hA5 hM5=>?_);replace hA3:=hM5 _ _ hA3;clear hM5
 try dsimp only at hT5
 have hS5:=hT5
 try simp only[gz,fI]
 refine qd 11 ?_;refine iU ?_;have hL:=hS5;obtain⟨HF4,HK4⟩:=eN (show Rw vi 217 2 (w5.alloc (.cells #[I U 109,C (gR [eD now,eD fb])] 217)) V1.heap.size (Z (G ⟨w5.heap.size,0,E⟩) 1 1) [(109,gR [eD now,eD fb])] from UT _ _ (eL _ _) hz5) (show Bk (w5.alloc (.cells #[I U 109,C (gR [eD now,eD fb])] 217)) w5.heap.size 217 #[I U 109,C (gR [eD now,eD fb])] from eL _ _);have HG4z:=hz5;have HL4:=H (show Bl V1 (w5.alloc (.cells #[I U 109,C (gR [eD now,eD fb])] 217)) from hL);clear hL;generalize w5.alloc (.cells #[I U 109,C (gR [eD now,eD fb])] 217)=W4 at*;generalize w5.heap.size=g4 at*;have HK4:Hid (Bk W4 g4 217 #[I U 109,C (gR [eD now,eD fb])]):=HK4;have HG4S:=H (show V1.heap.size<=g4 from HG4z);obtain⟨x0,x1,x2,x3,x4,x5⟩:=Bk.f6 (HL4.bl HX1);have U0:=HL4.ce T0';have U1:=HL4.ce T1'
 go_wp2_with fail
 go_loopw [32,4] (λi o wr=>(i= I J 0/\o= Z (G ⟨g4,0,E⟩) 1 1/\wr=W4)∨(i= I J 1/\Rw vi 217 2 wr V1.heap.size o [(109,gR [eD now,eD fb]),(116,gR [u,eD t])]/\Bl V1 wr)) (λi _ _=>1 - (intOf i).toNat)
 case atStart=>exact .inl ⟨D,D,D⟩
 case round=>
  rcases hrel with⟨rfl,rfl,rfl⟩ | ⟨rfl,ho,hb⟩
  ·go_upto_region 8 with fail
   obtain⟨V8,X8,hV8,hX8,BX8,LV8⟩:=iC wr #[C u,I J t] 244;rw[<-hV8,<-hX8];clear hV8;replace hX8:=H hX8;obtain⟨x80,x81⟩:=ni BX8;have HS8:=H (show Fs V1 X8 u t V8 from⟨HL4.ca LV8,BX8⟩);have Y0:=λW (hW:Fs V1 X8 u t W)=>Bk.ce hW.bk 0;have Y1:=λW (hW:Fs V1 X8 u t W)=>Bk.ce hW.bk 1;have HG4:=LV8.bl HK4;obtain⟨HG4z,HNE,DT⟩:=gi HG4S (show G X8≠(Value.slice (G ⟨g4,0,E⟩) 1 1).ownBlock by have h1:=hX8.out;have h2:=(aa2.1 HK4).1;simp only[Value.ownBlock];intro e;injection e with e;omega) (λW (hW:Bl V1 W)=>mD t W (HGB.below (HB1.ca hW) (aB _)));refine jI (T:=λw'=>Fs V1 X8 u t w') (S:=λw'=>Fs V1 X8 u t w') [] HS8.dr HS8.dr λhT0 hS0=>?_
   try dsimp only at hT0 hS0
   refine aaa [0,1] ?_;refine td 2 ?_;refine aaa [3,4] ?_;refine td 5 ?_;refine eK 6 λKQ hK=>?_;go_simp
   (go_at_call 51;refine qx (DT _ hS0.bl) λw2 hb2=>?_)
   replace HG4:=Bl.bl hb2 HG4;have hT1:=hS0.ca hb2;have hS1:=hT1;refine kq hK ?_;refine eK 7 λKQ hK=>?_;go_simp;refine wH (P:=λw'=>Fs V1 X8 u t w') (hK _ _) (hT1.al _) (λhT2 hA2 hM2=>?_);replace HG4:=hM2 _ _ HG4;clear hM2
   try dsimp only at hT2
   have hS2:=hT2
   try simp only[gz,fI]
   refine eK 8 λKQ hK=>?_;go_simp
   (go_at_call 342;refine qx (MD 116 [u,eD t] _ _ (lL [u,eD t] (pv hA2 fG) D D sm) sm HST) λw5 hb5=>?_)
   replace HG4:=Bl.bl hb5 HG4;replace hA2:=Bl.bl hb5 hA2;have hT3:=hS2.ca hb5;have hS3:=hT3;refine kq hK ?_;refine eK 9 λKQ hK=>?_;go_simp;refine wH (P:=λw'=>Fs V1 X8 u t w') (hK _ _) (hT3.al _) (λhT4 hA4 hM4=>?_);replace HG4:=hM4 _ _ HG4;replace hA2:=hM4 _ _ hA2;clear hM4
   try dsimp only at hT4
   have hS4:=hT4
   try simp only[gz,fI]
   refine eK 10 λKQ hK=>?_;rw[aA (by rfl)];refine rY (f:=vi) (L:=[(109,gR [eD now,eD fb])]) (M:=[(116,gR [u,eD t])]) Yc _ _ D V1.heap.size D (UT _ _ HG4 HG4z) D (mP (cs:=#[I U 116,C (gR [u,eD t])]) (pv hA4 fG) D gO) D sm hS4.bl.size ?_;intro v9 w9 ho9 hb9 hk9;have hS6:Fs V1 X8 u t w9:=⟨hb9 V1 D hS4.bl,hk9 _ _ HNE.symm hS4.bk⟩;have hT5:=hS6;have hS5:=hT5;refine kq hK ?_;refine qd 11 ?_;refine iU ?_;have hL:=hS5;obtain⟨HO9,HL9⟩:=eN ho9 hL.bl;clear hL
   go_wp2_with fail
   exact⟨.inr ⟨eB,HO9,HL9⟩,fV⟩
  ·obtain⟨HO,HBb⟩:=eN ho hb;obtain⟨A9,c9,rfl,hc9,_⟩:=ho.form;simp only[bj,b8,aZ] at hc9 ho ⊢;replace HO:=H ho;obtain⟨x0,x1,x2,x3,x4,x5⟩:=Bk.f6 (hb.bl HX1);have D2:=H (λW (hW:Bl V1 W)=>D21 W (HB1.ca hW));clear ho
   go_wp2_with fail
   go_loopw [51,4] (λi o wr=>i= I J 0/\o= Z A9 2 c9/\Rw vi 217 2 wr V1.heap.size (Z A9 2 c9) [(109,gR [eD now,eD fb]),(116,gR [u,eD t])]/\Bl V1 wr) (λ_ _ _=>0)
   case atStart=>exact⟨D,D,HO,HBb⟩
   case round=>
    obtain⟨rfl,rfl,ho,hb⟩:=hrel;obtain⟨HO,HBb⟩:=eN ho hb;obtain⟨x0,x1,x2,x3,x4,x5⟩:=Bk.f6 (hb.bl HX1);clear ho
    go_wp2_with fail
    go_loopw [92,4] (λi o wr=>i= I J 0/\o= Z A9 2 c9/\Rw vi 217 2 wr V1.heap.size (Z A9 2 c9) [(109,gR [eD now,eD fb]),(116,gR [u,eD t])]/\Bl V1 wr) (λ_ _ _=>0)
    case atStart=>exact⟨D,D,HO,HBb⟩
    case round=>
     obtain⟨rfl,rfl,ho,hb⟩:=hrel;obtain⟨HO,HBb⟩:=eN ho hb;obtain⟨x0,x1,x2,x3,x4,x5⟩:=Bk.f6 (hb.bl HX1);clear ho
     go_wp2_with fail
     go_loopw [121,4] (λi o wr=>i= I J 0/\o= Z A9 2 c9/\Rw vi 217 2 wr V1.heap.size (Z A9 2 c9) [(109,gR [eD now,eD fb]),(116,gR [u,eD t])]/\Bl V1 wr) (λ_ _ _=>0)
     case atStart=>exact⟨D,D,HO,HBb⟩
     case round=>
      obtain⟨rfl,rfl,ho,hb⟩:=hrel;obtain⟨HO,HBb⟩:=eN ho hb;clear ho
      go_wp2_with (first | (go_at_call 51;refine qx (D2 _ HBb) λw9 hb9=>?_) | (go_at_call 342;refine qx (MZ _) λw10 hb10=>?_) | (at_builtin;refine fH Yc D _ _ D V1.heap.size D (HO.bl (((Bl.al hb9 _).ca hb10).al _)) D (eL _ _) (y:=(122,gR [d2])) D D (by simp[vi,Value.oneCell']) sm ((HBb.ca ((Bl.al hb9 _).ca hb10)).al _).size ?_;intro v11 w11 ho11 hk11))
      have hl11:=hk11 V1 D ((HBb.ca ((Bl.al hb9 _).ca hb10)).al _);obtain⟨HO11,HL11⟩:=eN ho11 hl11
      go_wp2_with fail
      go_ret;exact⟨_,D,HO11.iD,HB1.ca HL11⟩
def Bs (w w':World):Prop:=∀ k t cs,Bk w k t cs->t≠206->t≠5->Bk w' k t cs
theorem Bs.rw {α:Type}{f:α->List Value}{v}{L:List α}(h:Rw f t sz w b v L)(hs:Bs w w')(h1:t≠206)(h2:t≠5):Rw f t sz w' b v L:=by
 refine⟨h.1,?_⟩;rcases h.2 with k | ⟨g,cap,cur,hv,hg,hh,r⟩
 ·exact .inl k
 ·exact .inr ⟨g,cap,cur,hv,hg,hs _ _ _ hh h1 h2,r⟩
theorem QH (B b:Nat)(bs)(w)(h:Lib.IsBuilder 206 5 B b bs w):
 Calls prog 178 #[.pointer (G ⟨b,0,E⟩)] w λe w'=>e= .returned (.tuple #[])/\(Lib.BuilderAt 206 5 B b (.pointer (G ⟨b,0,E⟩)) bs w'/\Below B w w'/\Bs w w'):=by
 rcases h with h | h
 ·refine QS (vK b w h.cell0 h.shape h.frozen0) ?_;have hb:Bk w b 206 _:=h.2.choose_spec.1;exact⟨D,h.used _,(aa4 B w).setCell (p:=⟨b,0,E⟩) h.1 _,λk t cs hk h1 _=>Bk.fw hk hb h1 0 _⟩
 ·refine QS (yB b w h.cell0) ?_;exact⟨D,h,aa4 B _,λk t cs hk _ _=>hk⟩
theorem Mt (B b:Nat)(bs)(s:ay)(w)(h:Lib.IsBuilder 206 5 B b bs w)(hlen:bs.length+s.size<=140737488355328)(hBw:B<=w.heap.size):
 Calls prog 111 #[.pointer (G ⟨b,0,E⟩),C s] w λe w'=>e= .returned (.tuple #[I J s.size,.nilIface])/\(Lib.BuilderAt 206 5 B b (.pointer (G ⟨b,0,E⟩)) (bs++Lib.strCells s) w'/\Below B w w'/\Bs w w'):=by
 obtain⟨i0,hi,hz0,hz1,hz2⟩:=info_parts ud
 go_enter func111,ntmps111
 go_wp2_with (go_at_call 178;refine(QH B b bs _ h).mono ?_)
 rintro e w1 ⟨rfl,h1,hb1,hs1⟩;obtain⟨hB,v,hbk,hown,hne⟩:=h1;have c0:w1.cell? ⟨b,0,E⟩=G (.pointer (G ⟨b,0,E⟩)):=by rw[Lib.cell_of_heap hbk];rfl
 have c1:w1.cell? ⟨b,1,E⟩=G v:=by rw[Lib.cell_of_heap hbk];rfl
 go_wp2_with (at_builtin;refine Lib.wpList_append_own_string _ D _ _ 203 9 D B 5 i0 underlying203 underlying9 hi hz0 hz1 hz2 _ _ _ D hown s D ?c3 ?c4 ?c5 ?_)
 case c3=>unfold maxLen;omega
 case c4=>omega
 case c5=>have:=hb1.size;omega
 intro v' w2 hown' hgrow _;have hlt:b<w1.heap.size:=by
  rcases bZ b w1.heap.size with h' | h'
  ·exact h'
  ·simp[Array.getElem?_eq_none h'] at hbk
 have hb2:w2.heap[b]?=G (.cells #[.pointer (G ⟨b,0,E⟩),v] 206 (0,0)):=by
  rw[hgrow.block b hlt (λe=>hne e.symm)];exact hbk
 have d1:w2.cell? ⟨b,1,E⟩=G v:=by rw[Lib.cell_of_heap hb2];rfl
 have f1:w2.frozen? ⟨b,1,E⟩=z:=Lib.frozen_of_heap hb2 1;obtain⟨ao,n',cap,rfl⟩:∃ ao n' cap,v'= Z ao n' cap:=by
  rcases hown'.2 with⟨hv,_⟩ | ⟨g,cap,cur,hv,_⟩
  all_goals
   exact⟨_,_,_,hv⟩
 have HS2:=H (show Bs w w2 from λk t cs hk h1 h2=>vL (hs1 k t cs hk h1 h2) hown h2 hgrow)
 go_wp2
 go_ret2
 refine⟨D,?_,?_,?_⟩
 ·exact Lib.BuilderAt.put (T:=206) (e:=5) hB hb2 (bs':=bs++Lib.strCells s) (by simpa[Lib.strCells_length] using hown') dc
 ·exact(hb1.grown hgrow (by have:=hb1.size;omega) (λk hk=>(hown.lt k hk).1)).setCell (p:=⟨b,1,E⟩) hB _
 ·exact λk t cs hk h1 h2=>Bk.fw (HS2 k t cs hk h1 h2) hb2 h1 1 _
theorem Bl.bw {w9}(h:Bl w wr)(hb:Below B wr w9)(hB:w.heap.size<=B):Bl w w9:=
 ⟨hb.os.trans h.os,hb.tape.trans h.tape,hb.output.trans h.output,aH h.size hb.size,λk hk=>(hb.block k om).trans (h.block k hk)⟩
def vU (T:List ay):List UInt8:=T.flatMap λt=>t.data.toList
theorem LW {T:List ay}(h:k<T.length):vU (T.take (k+1))=vU (T.take k)++T[k].data.toList:=by
 unfold vU;rw[aL h,bB];simp
theorem QI (T:List ay)(h:∀ t∈T,t.size<=1000):(vU T).length<=T.length*1000:=by
 unfold vU
 induction T with
 | nil=>simp
 | cons a r ih=>
  rw[bh,aU,bj,Nat.succ_mul];have h1:=h a sm;have h2:=ih λt ht=>h t (by simp[ht]);have h3:=eZ a;omega
theorem VN (F:List (UInt8×ay))(T:List ay)(hFT:T.length=F.length)(hF:F.length<=10)(hT:∀ t∈T,t.size<=1000)(hne:vU T≠[])
 (hpk:∀ k (h:k<F.length) (h':k<T.length) W,aai 211 #[.agg #[I U (F[k].1.toNat:Nat),C F[k].2]] W (.tuple #[C T[k],av]))
 (x:St) (vo vu vs vt:Value) (w:World) (hfr:∀ W,Bl w W->Calls prog 273 #[jd x vo vu vs vt] W λe w'=>∃ v',e= .returned v'/\Rw vi 217 2 w' 0 v' F/\Bl W w')
 (ho:∃ A n c,vo= Z A n c) (hu:∃ A n c,vu= Z A n c) (hs:∃ A n c,vs= Z A n c) (ht:∃ A n c,vt= Z A n c):
 aai 215 #[jd x vo vu vs vt] w (C ⟨(vU T).toArray⟩):=by
 obtain⟨A1,n1,c1,rfl⟩:=ho;obtain⟨A2,n2,c2,rfl⟩:=hu;obtain⟨A3,n3,c3,rfl⟩:=hs;obtain⟨A4,n4,c4,rfl⟩:=ht;unfold jd at hfr ⊢;obtain⟨FR,PK,HFT,HTS⟩:=kB hfr hpk hFT hT;have HNE:=H hne;obtain⟨n,hn,HN⟩:=nh F.length;rw[<-hn] at hF;clear hfr hpk hFT hT hne hn;obtain⟨X,V,hX,hV,BX,HB,HXw,SV⟩:=gC w #[I J x.now,I J x.fb,Z A1 n1 c1,Z A2 n2 c2,Z A3 n3 c3,Z A4 n4 c4] 131;obtain⟨x0,x1,x2,x3,x4,x5⟩:=jg BX;have HX:=H BX
 go_enter func215,ntmps215
 go_upto_region 1 with fail
 rw[<-hV,<-hX];clear hV hX;obtain⟨V2,hV2,HV2⟩:=nh (V.alloc (.cells #[.pointer E,aw] 206));obtain⟨B,hBe,HBe⟩:=nh V.heap.size;obtain⟨HI,HB2⟩:=eN (show Lib.IsBuilder 206 5 B B [] V2 by rw[hV2,hBe];exact Lib.fresh_isBuilder _ _ _) (show Bl V V2 by rw[hV2];exact gl _ _);obtain⟨y0,y1,y2,y3,y4,y5⟩:=Bk.f6 (HB2.bl HX);clear hV2 hBe
 go_upto_region 2 with fail
 rw[<-HV2.out,<-HBe.out]
 go_upto_region 3 with(go_at_call 273;refine aaj (FR _ (HB.ca HB2)) λv3 w3 hr3 hb3=>?_;obtain⟨A9,c9,rfl,_,_⟩:=hr3.form;rw[<-HN.out])
 obtain⟨HR3,HI3,HB3,HBle⟩:=kB hr3 (sy HI hb3) (HB.ca (HB2.ca hb3)) (show B<=w3.heap.size/\w.heap.size<=B by have h1:=HB2.size;have h2:=hb3.size;have h3:=HB.size;have h4:=HBe.out;omega)
 go_wp2_with fail
 go_loopw [11] (λc wr=>∃ k:Nat,k<=n/\c= I J (k:Int)/\Lib.IsBuilder 206 5 B B (Lib.byteCells (vU (T.take k))) wr/\Rw vi 217 2 wr 0 (Z A9 n c9) F/\Bl w wr/\B<=wr.heap.size) (λc _=>n - (intOf c).toNat)
 case atStart=>exact⟨0,om,D,HI3,by have:=HR3.out;rwa[<-HN.out] at this,HB3,HBle.out.1⟩
 case round=>
  obtain⟨k,hk,rfl,hI,hr,hbr,hBw⟩:=hrel;by_cases hlt:k<n
  ·have hk':k<F.length:=by rw[<-HN.out];exact hlt
   have hkT:k<T.length:=by rw[HFT.out];exact hk'
   obtain⟨g9,rfl,_,_,f0,f1⟩:=Rw.Cm (c0:=λx:UInt8×ay=>I U (x.1.toNat:Nat)) (c1:=λx:UInt8×ay=>C x.2) (λ_=>rfl) hr k hk';obtain⟨F0,F1⟩:=xV f0 f1 wr Bl.eH;obtain⟨PKk,HCT⟩:=eN (PK k hk' hkT) (LW hkT);have hlen:=QI (T.take k) (λt ht=>HTS t (List.mem_of_mem_take ht));have hts:=HTS _ (aV hkT);obtain⟨HLN,HIr,HRr,HBR⟩:=kB (show(Lib.byteCells (vU (T.take k))).length+T[k].size<=140737488355328 by rw[Lib.byteCells_length];rw[aK] at hlen;have:min k T.length*1000<=k*1000:=bt _ (dM _ _);omega) hI hr hbr;have HBL:=H hBw;generalize T[k]=t at*;generalize F[k]=f at*;obtain⟨fk,fs⟩:=f;dsimp only at F0 F1 PKk;obtain⟨i1,i2⟩:=ln (k:=k) (m:=n) om;clear hI hr hbr hBw hlen hts
   go_upto_region 5 with fail
   obtain⟨V5,ak,hV5,hE,BE,LV5⟩:=iC wr #[I U (fk.toNat:Nat),C fs] 217;rw[<-hV5,<-hE];clear hV5;replace hE:=H hE;obtain⟨e0,e1⟩:=ni BE;have hb55:=br V5
   go_wp2_with (first | (go_at_call 211;refine qx (PKk _) λw8 hb8=>?_) | (go_at_call 111;refine(Mt B B _ t _ (sy HIr (LV5.ca hb8)) HLN (aH HBL (aH LV5.size hb8.size))).mono ?_;rintro e w9 ⟨rfl,hw9,hb9,hs9⟩))
   refine⟨⟨k+1,hlt,eB,aI ?_,Bs.rw ((HRr.bl LV5).bl hb8) hs9 dc dc,(HBR.ca (LV5.ca hb8)).bw hb9 HBle.out.2,by have:=HBL.out;have:=LV5.size;have:=hb8.size;have:=hb9.size;omega⟩,eE⟩;rw[HCT.out];have e:Lib.byteCells (vU (T.take k)++t.data.toList)=Lib.byteCells (vU (T.take k))++Lib.strCells t:=by simp[Lib.byteCells,Lib.strCells]
   rw[e];exact hw9
  ·have ek:k=n:=om;have i1:¬(k:Int)<n:=om;subst ek;rw[HN.out,<-HFT.out,aT] at hI;obtain⟨HIr,HBR,HBL⟩:=gi hI hbr hBw;clear hI hr hbr hBw
   go_wp2_with (go_at_call 112;refine qx (Tryz.Builder_String B B (vU T) _ HIr HNE) λw9 hb9=>?_)
   go_ret;exact⟨D,HBR.bw hb9 HBle.out.2⟩
