/- Lemmas for AfterglowSecret: what functions of the program return; no condition. -/
import Derived.Test.YtkpdknkidnfgiaaGreatDoorJa
import Derived.Test.YtkpdknkidnfgiaaGreatDoorJb
set_option maxHeartbeats 0
set_option maxRecDepth 100000
set_option linter.unusedVariables false
open Go.Value renaming int->I,string->C,slice->Z
open Go.IntKind renaming i64->J,u8->U
open Option renaming none->E,some->G
open Bool renaming true->Q,false->z
open Go.Lib renaming hid->H
open Go.Proofs.Tryz
namespace Go.Proofs.YtkpdknkidnfgiaaGreatDoor
theorem abq{p:Prop}(h:p:=by
 simp only[aE,aO,aQ,bN];omega):p:=h
theorem jo{p:Prop}(h:p:=by
 rintro e w' ⟨rfl,h2,h3⟩;exact⟨D,hkf.ca h3,h2⟩):p:=h
theorem oe{p:Prop}(h:p:=by
 refine qd 19 ?_;refine qd 20 ?_;refine te 21 ?_;refine te 22 ?_;refine te 23 ?_;refine te 24 ?_;refine te 25 ?_;refine te 26 ?_;refine te 27 ?_;refine te 28 ?_;refine te 29 ?_;refine te 30 ?_;refine te 31 ?_;refine te 32 ?_;refine te 33 ?_;refine te 34 ?_;refine te 35 ?_;refine qd 36 ?_;refine iU ?_;have hL:=hS3
 go_wp2_with ((go_at_call 5;with_reducible refine(AL.out _ (HB3.out.ca hL)).mono ?_;rintro e w9 ⟨rfl,hb9⟩))
 go_ret;exact⟨D,HB3.ca (hL.ca hb9)⟩):p:=h
theorem abC{p:Prop}(h:p:=by
 go_wp2_with ((go_at_call 5;with_reducible refine(AL.out _ HB1.out).mono ?_;rintro e w2 ⟨rfl,hb2⟩))
 go_ret;exact⟨D,HB1.ca hb2⟩):p:=h
variable {u:ByteArray} {ev ld na nt:Int} {F:List Nat} {A B K N X Y aq b c g k q s:Nat} {t:TypeId} {c0 c1 c2 c3 c4 c5 c6 c7 c8 c9 vo vs vt vu:Value} {O V W w w':World}
namespace Tp
open Go Go.RowKit Go.Lib CrcM FrM SgM
open Ds (Dk eF lg mg jY Ag zc ptr Bd px FH Ct ur kJ Iv kF)
open Ds.DkM (bf Fl gG)
theorem KF.at(h:KF F V w)(hs:s∈F)(i:Nat)(v):KF F V (w.setCell ⟨s,i,E⟩ v):=h.st hs v
structure MS (V:World)(s:Nat)(W:World):Prop where
 kf:KF [s] V W
 y:∃ cs,Bk W s 139 cs/\cs.size=12
section
variable {V W W':World}{s:Nat}
theorem MS.dr (h:MS V s W):MS V s W.drew:=⟨h.kf.dr,h.y⟩
theorem MS.al (h:MS V s W)(o):MS V s (W.alloc o):=⟨h.kf.al o,let⟨cs,k,e⟩:=h.y;⟨cs,(gl W o).bl k,e⟩⟩
theorem MS.ca (h:MS V s W)(hb:Bl W W'):MS V s W':=⟨h.kf.bl hb,let⟨cs,k,e⟩:=h.y;⟨cs,hb.bl k,e⟩⟩
theorem MS.st (h:MS V s W)(i:Nat)(v):MS V s (W.setCell ⟨s,i,E⟩ v):=⟨h.kf.st sm v,let⟨_,k,e⟩:=h.y;⟨_,k.set i v,by simpa using e⟩⟩
theorem MS.fn (V)(s:Nat):∃ F:World->Nat->Value,∀ W,MS V s W->∀ j,j<12->W.cell? ⟨s,j,E⟩=G (F W j):=by
 refine⟨λW j=>(W.cell? ⟨s,j,E⟩).getD undef,λW h j hj=>?_⟩;exact nS
theorem MS.fr (h:MS V s W)(j:Nat):W.frozen? ⟨s,j,E⟩=z:=let⟨_,k,_⟩:=h.y;k.fr j
end
structure tB (w:World)(K s p b:Nat)(S:Dk)(g:Sg)(x:St)(ev nt n:Int)(y:St)(f:ay):Prop where
 sx:SX w 0 s p b S g x ev nt
 k:∃ vo vu vs vt ul,Bk w K 241 #[ptr s,ptr p,I J n,I J y.now,I J y.fb,vo,vu,vs,vt,C f]/\oD w 0 vo vu vs vt y ul
section
variable {w w':World}{K s p b:Nat}{S:Dk}{g:Sg}{x:St}{ev nt n:Int}{y:St}{f:ay}
theorem tB.ne (h:tB w K s p b S g x ev nt n y f):K≠s/\K≠p/\K≠b:=by
 obtain⟨⟨_,_,_,_,_,_,h1⟩,_,_,_,_,_,h2,_⟩:=h;exact h1.ne h2 dc dc
theorem tB.dk {S'}(h:tB w K s p b S g x ev nt n y f)(hk:KF [p,b] w w')(hd:eF w' p b S'):tB w' K s p b S' g x ev nt n y f:=by
 have hn:=h.ne;obtain⟨⟨_,_,_,_,_,_,h1⟩,_,_,_,_,_,h2,h3⟩:=h;exact⟨⟨_,_,_,_,_,_,h1.YY hk hd⟩,_,_,_,_,_,hk.hp h2 (by simp[hn.2.1,hn.2.2]),h1.GV sm hk h3⟩
theorem tB.d (h:tB w K s p b S g x ev nt n y f):eF w p b S:=by obtain⟨⟨_,_,_,_,_,_,h1⟩,_⟩:=h;exact h1.dk
end
theorem Bk.f10(h:Bk W A t #[c0,c1,c2,c3,c4,c5,c6,c7,c8,c9]):W.cell? ⟨A,0,E⟩=G c0/\W.cell? ⟨A,1,E⟩=G c1/\W.cell? ⟨A,2,E⟩=G c2/\W.cell? ⟨A,3,E⟩=G c3/\W.cell? ⟨A,4,E⟩=G c4/\W.cell? ⟨A,5,E⟩=G c5/\W.cell? ⟨A,6,E⟩=G c6/\W.cell? ⟨A,7,E⟩=G c7/\W.cell? ⟨A,8,E⟩=G c8/\W.cell? ⟨A,9,E⟩=G c9:=
 ⟨h.ce 0,h.ce 1,h.ce 2,h.ce 3,h.ce 4,h.ce 5,h.ce 6,h.ce 7,h.ce 8,h.ce 9⟩
theorem KF.sG(h:Bk V A t #[c0,c1,c2,c3,c4,c5,c6,c7,c8,c9])(hA:A∉F):(∀ W,KF F V W->W.cell? ⟨A,0,E⟩=G c0)/\(∀ W,KF F V W->W.cell? ⟨A,1,E⟩=G c1)/\(∀ W,KF F V W->W.cell? ⟨A,2,E⟩=G c2)/\(∀ W,KF F V W->W.cell? ⟨A,3,E⟩=G c3)/\(∀ W,KF F V W->W.cell? ⟨A,4,E⟩=G c4)/\(∀ W,KF F V W->W.cell? ⟨A,5,E⟩=G c5)/\(∀ W,KF F V W->W.cell? ⟨A,6,E⟩=G c6)/\(∀ W,KF F V W->W.cell? ⟨A,7,E⟩=G c7)/\(∀ W,KF F V W->W.cell? ⟨A,8,E⟩=G c8)/\(∀ W,KF F V W->W.cell? ⟨A,9,E⟩=G c9):=
 ⟨KF.all h hA 0 D,KF.all h hA 1 D,KF.all h hA 2 D,KF.all h hA 3 D,KF.all h hA 4 D,KF.all h hA 5 D,KF.all h hA 6 D,KF.all h hA 7 D,KF.all h hA 8 D,KF.all h hA 9 D⟩
section
variable {w:World}{K s p b:Nat}{S:Dk}{g:Sg}{x:St}{ev nt n:Int}{y:St}{f:ay}
theorem Va:(∀ (h:tB w K s p b S g x ev nt n y f) (hB:Bd S) (hf:f.size<=maxLen) (hc:(jY S f).2=0),Calls prog 140 #[ptr K] w λe w'=>e= .returned av/\tB w' K s p b (jY S f).1 g x ev nt n y f/\KF [s,p,b] w w')/\
 (∀ (h:tB w K s p b S g x ev nt n y f) (hB:Bd S) (hf:f.size<=maxLen) (hc:(mg S f).2=0),Calls prog 142 #[ptr K] w λe w'=>e= .returned av/\tB w' K s p b (mg S f).1 g x ev nt n y f/\KF [s,p,b] w w'):=by
 refine⟨?_,?_⟩
 all_goals intro h hB hf hc
 have OP:=λW (hW:Bl w W)=>Ds.ox (h.d.fp hW) hB (n:=f) hf;rotate_left;have OP:=λW (hW:Bl w W)=>Ds.GJ.1 (h.d.fp hW) hB (n:=f) hf;rotate_left
 all_goals
  unfold Ds.jE at OP;rw[hc] at OP;replace OP:=H OP;have hn:=h.ne;have HW:=H h;obtain⟨_,vo,vu,vs,vt,ul,hk,_⟩:=h;obtain⟨c0,c1,c2,c3,c4,c5,c6,c7,c8,c9⟩:=KF.sG (F:=[p,b]) hk (by simp[hn.2.1,hn.2.2]);clear hk hn hB hc
 focus
  go_enter func140,ntmps140
 rotate_left
 focus
  go_enter func142,ntmps142
 rotate_left
 all_goals
  go_upto_region 1 with fail
  refine jI (T:=KF [p,b] w) (S:=KF [p,b] w) [] (KF.dr KF.eH) (KF.dr KF.eH) λhT0 hS0=>?_
  try dsimp only at hT0 hS0
  refine aaa [0,1,2] ?_;refine td 3 ?_;refine aaa [4,5,6] ?_;refine td 7 ?_;refine eK 8 λKQ hK=>?_;go_simp
 (go_at_call 101;refine(OP _ (Bl.dr Bl.eH)).mono ?_;rintro e w2 ⟨rfl,hd2,hk2⟩)
 rotate_left
 (go_at_call 136;refine(OP _ (Bl.dr Bl.eH)).mono ?_;rintro e w2 ⟨rfl,hd2,hk2⟩)
 rotate_left
 all_goals
  have hT1:=hS0.ca (KF.kp hk2 sm sm);have hS1:=hT1;refine kq hK ?_;refine qd 9 ?_;refine iU ?_;have hL:=hS1;obtain⟨HK,HD⟩:=eN (show KF [p,b] w w2 from hL) hd2;clear hL
  go_wp2_with fail
  go_ret;exact⟨D,HW.dk HK HD,HK.mono sm⟩
theorem Vs (t:ay)(h:tB w K s p b S g x ev nt n y f)(hB:Bd S)(hf:f.size<=maxLen)(ht:t.size<=9223372036854775807)(hc:(lg S f t).2=0)
 (hsw:∀ W vo vu vs vt ul,Bl w W->oD W 0 vo vu vs vt y ul->aai 215 #[jd y vo vu vs vt] W (C t)):
 Calls prog 141 #[ptr K] w λe w'=>e= .returned av/\tB w' K s p b (lg S f t).1 g x ev nt n y f/\KF [s,p,b] w w':=by
 have AD:=λW (hW:Bl w W)=>Ds.yG (h.d.fp hW) hB (n:=f) (t:=t) hf ht;unfold Ds.jE at AD;rw[hc] at AD;replace AD:=H AD;have hn:=h.ne;have HW:=H h;obtain⟨_,vo,vu,vs,vt,ul,hk,hr⟩:=h;have SW0:=λW (hW:Bl w W)=>hsw W vo vu vs vt ul hW (hr.bl hW);obtain⟨⟨A1,q1,e1,rfl⟩,⟨A2,q2,e2,rfl⟩,⟨A3,q3,e3,rfl⟩,A4,q4,e4,rfl⟩:=hr.nr;unfold jd at SW0;have SW:=H SW0;obtain⟨c0,c1,c2,c3,c4,c5,c6,c7,c8,c9⟩:=KF.sG (F:=[p,b]) hk (by simp[hn.2.1,hn.2.2]);clear hk hn hB hc hr hsw
 go_enter func141,ntmps141
 go_upto_region 1 with fail
 refine jI (T:=KF [p,b] w) (S:=KF [p,b] w) [] (KF.dr KF.eH) (KF.dr KF.eH) λhT0 hS0=>?_
 try dsimp only at hT0 hS0
 refine aaa [0,1,2] ?_;refine td 3 ?_;refine aaa [4,5,6] ?_;refine td 7 ?_;refine aaa [8,9,10] ?_;refine td 11 ?_;refine eK 12 λKQ hK=>?_;go_simp
 (go_at_call 215;refine qx (SW _ (Bl.dr Bl.eH)) λw2 hb2=>?_)
 have hv2:Bl w w2:=Bl.ca (Bl.dr Bl.eH) hb2;have hT1:=hS0.bl hb2;have hS1:=hT1;refine kq hK ?_;refine eK 13 λKQ hK=>?_;go_simp
 (go_at_call 134;refine(AD _ hv2).mono ?_;rintro e w3 ⟨rfl,hd3,hk3⟩)
 have hT2:=hS1.ca (KF.kp hk3 sm sm);have hS2:=hT2;refine kq hK ?_;refine qd 14 ?_;refine iU ?_;have hL:=hS2;obtain⟨HK,HD⟩:=eN (show KF [p,b] w w3 from hL) hd3;clear hL
 go_wp2_with fail
 go_ret;exact⟨D,HW.dk HK HD,HK.mono sm⟩
theorem Ya (h:tB w K s p b S g x ev nt n y f)(hB:Bd S)(hf:f.size<=maxLen)(hn:SgM.In64 n)(hc:(Ag S f (SgM.fS ⟨99,n⟩)).2=0):
 Calls prog 143 #[ptr K] w λe w'=>e= .returned av/\tB w' K s p b (Ag S f (SgM.fS ⟨99,n⟩)).1 g x ev nt n y f/\KF [s,p,b] w w':=by
 have NM:=H (λW (hW:Bl w W)=>(show Calls prog 100 #[.agg #[I U 99,I J n]] W λe w'=>e= .returned (C (SgM.fS ⟨99,n⟩))/\Bl w w' from(SgM.ji ⟨99,n⟩ W hn).mono λe w' (k:_/\_)=>⟨k.1,hW.ca k.2⟩));have RN:=λW (hW:Bl w W)=>Ds.Gu (h.d.fp hW) hB (a:=f) (c:=SgM.fS ⟨99,n⟩) hf kQ;unfold Ds.jE at RN;rw[hc] at RN;replace RN:=H RN;generalize SgM.fS ⟨99,n⟩=nc at*;have hne:=h.ne;have HW:=H h;obtain⟨_,vo,vu,vs,vt,ul,hk,_⟩:=h;obtain⟨c0,c1,c2,c3,c4,c5,c6,c7,c8,c9⟩:=KF.sG (F:=[p,b]) hk (by simp[hne.2.1,hne.2.2]);clear hk hne hB hc hn
 go_enter func143,ntmps143
 go_upto_region 1 with fail
 refine jI (T:=KF [p,b] w) (S:=KF [p,b] w) [] (KF.dr KF.eH) (KF.dr KF.eH) λhT0 hS0=>?_
 try dsimp only at hT0 hS0
 refine aaa [0,1,2] ?_;refine td 3 ?_;refine aaa [4,5,6] ?_;refine td 7 ?_;refine aaa [8,9,10] ?_;refine td 11 ?_;refine qd 12 ?_;refine eK 13 λKQ hK=>?_;go_simp
 (go_at_call 100;refine qx (NM _ (Bl.dr Bl.eH)) λw2 hb2=>?_)
 have hT1:=KF.of (F:=[p,b]) hb2;have hS1:=hT1;refine kq hK ?_;refine eK 14 λKQ hK=>?_;go_simp
 (go_at_call 216;refine(RN _ hb2).mono ?_;rintro e w3 ⟨rfl,hd3,hk3⟩)
 have hT2:=hS1.ca (KF.kp hk3 sm sm);have hS2:=hT2;refine kq hK ?_;refine qd 15 ?_;refine iU ?_;have hL:=hS2;obtain⟨HK,HD⟩:=eN (show KF [p,b] w w3 from hL) hd3;clear hL
 go_wp2_with fail
 go_ret;exact⟨D,HW.dk HK HD,HK.mono sm⟩
theorem OQ (h:SX w 0 s p b S g x ev nt)(v)(hv:iW w 0 v y)(hy:pY 60 y):
 Calls prog 217 #[ptr s,.agg #[I U 115,I J n],v] w λe w'=>e= .returned (.tuple #[])/\SX w' 0 s p b S ⟨115,n⟩ y ev nt/\KF [s] w w':=by
 obtain⟨na,wo,wu,ws,wt,ul0,h⟩:=h;have CL0:=λW (hW:Bl w W)=>pt y v 0 W (let⟨vo,vu,vs,vt,ul,e,k⟩:=hv;⟨vo,vu,vs,vt,ul,e,k.bl hW⟩) (uh hy);obtain⟨vo,vu,vs,vt,ul,rfl,hr⟩:=hv;obtain⟨⟨A1,q1,d1,rfl⟩,⟨A2,q2,d2,rfl⟩,⟨A3,q3,d3,rfl⟩,A4,q4,d4,rfl⟩:=hr.nr;unfold jd at CL0 ⊢;obtain⟨X,V,hX,hV,BX,BY,HB,HXw,SV⟩:=lj w #[I U 115,I J n] 133 #[I J y.now,I J y.fb,Z A1 q1 d1,Z A2 q2 d2,Z A3 q3 d3,Z A4 q4 d4] 131;obtain⟨x0,x1⟩:=ni BX;obtain⟨y0,y1,y2,y3,y4,y5⟩:=jg BY;obtain⟨CL,HV⟩:=eN (λW (hW:Bl V W)=>CL0 W (HB.ca hW)) (h.bl HB);have X0:=Bk.all BX 0 D;have X1:=Bk.all BX 1 D;have Y0:=Bk.all BY 0 D;have Y1:=Bk.all BY 1 D;have Y2:=Bk.all BY 2 D;have Y3:=Bk.all BY 3 D;have Y4:=Bk.all BY 4 D;have Y5:=Bk.all BY 5 D;have HMS:=H (show MS V s V from⟨KF.eH,_,HV.fo,D⟩);obtain⟨F,hF⟩:=MS.fn V s;have z0:=λW (h:MS V s W)=>hF W h 0 dc;have z1:=λW (h:MS V s W)=>hF W h 1 dc;have z2:=λW (h:MS V s W)=>hF W h 2 dc;have z3:=λW (h:MS V s W)=>hF W h 3 dc;have z4:=λW (h:MS V s W)=>hF W h 4 dc;have z5:=λW (h:MS V s W)=>hF W h 5 dc;have z6:=λW (h:MS V s W)=>hF W h 6 dc;have z7:=λW (h:MS V s W)=>hF W h 7 dc;have zf:=λW j (h:MS V s W)=>h.fr j;clear h hr hy hF
 go_enter func217,ntmps217
 go_upto_region 1 with fail
 rw[<-hV,<-hX];clear hV hX;refine jI (T:=MS V s) (S:=Bl V) [9,14] HMS.dr (Bl.dr Bl.eH) λhT0 hS0=>?_
 try dsimp only at hT0 hS0
 refine aaa [0,1] ?_;refine td 2 ?_;refine eK 3 λKQ hK=>?_;go_simp;have hT1:=hT0.ca Bl.eH;have hS1:=hS0.ca Bl.eH;refine kq hK ?_;refine eK 4 λKQ hK=>?_;go_simp
 (go_at_call 123;refine aaj (CL _ hS1) λv1 w1 hs1 hb1=>?_)
 obtain⟨vo1,vu1,vs1,vt1,ul1,rfl,hr1⟩:=hs1;obtain⟨⟨B1,m1,e1,rfl⟩,⟨B2,m2,e2,rfl⟩,⟨B3,m3,e3,rfl⟩,B4,m4,e4,rfl⟩:=hr1.nr;unfold jd;have hSC:=Bl.ca hS1 hb1;have hT2:=hT1.ca hb1;have hS2:=hS1.ca hb1;refine kq hK ?_;refine aaa [5,6,7,8] ?_;refine eK 9 λKQ hK=>?_;go_simp;refine fJ (hK _ _) (MS.st (MS.st hT2 _ _) _ _) (eI (j:=9) kr kr) (λhT3=>?_)
 try dsimp only at hT3
 try simp only[fI]
 refine tz 10 hT3 (eI (j:=9) kr kr) ?_;refine tz 11 hT3 (eI (j:=9) kr kr) ?_;refine tz 12 hT3 (eI (j:=9) kr kr) ?_;refine tz 13 hT3 (eI (j:=9) kr kr) ?_;refine eK 14 λKQ hK=>?_;go_simp;refine fJ (hK _ _) (MS.st (MS.st (MS.st (MS.st (MS.st (MS.st hT3 _ _) _ _) _ _) _ _) _ _) _ _) (eI (j:=14) kr kr) (λhT4=>?_)
 try dsimp only at hT4
 try simp only[fI]
 refine iU ?_;have hT:=H hT4;obtain⟨HK,HR1,HSC⟩:=gi hT.kf hr1 hSC
 go_wp2_with fail
 go_end0;have hP:=(HV.bl HSC).Ym n;have hR:=mO (mO (HR1.iD (aD _)) (HV.bl HSC).fo 6 (I U 115)) (Bk.set (HV.bl HSC).fo 6 _) 7 (I J n);exact⟨D,⟨_,_,_,_,_,_,hP.Yl hR⟩,(KF.of HB).ca HK⟩
end
def Vq (w:World)(an:Nat)(x:St)(k n ev:Int):Prop:=∃ vo vu vs vt ul,Bk w an 135 #[I J x.now,I J x.fb,vo,vu,vs,vt,I U k,I J n,I J ev]/\oD w 0 vo vu vs vt x ul
theorem Vq.kf{an:Nat}{x}{k n:Int}(h:Vq w an x k n ev)(hk:KF F w w')(hG:an∉F)(hF:∀ t∈[289,282,112,293,244],∀ q∈F,∀ cs,w.heap[q]?≠G (.cells cs t)):Vq w' an x k n ev:=
 let⟨vo,vu,vs,vt,ul,hb,hr⟩:=h
 ⟨vo,vu,vs,vt,ul,hk.hp hb hG,⟨hk.qz hr.ho (hF _ sm),hk.qz hr.hu (hF _ sm),⟨hr.hl.1,λj h1 h2=>⟨(hr.hl.2 j h1 h2).1,hk.qz (hr.hl.2 j h1 h2).2 (hF _ sm)⟩⟩,hk.qz hr.hs (hF _ sm),hk.qz hr.ht (hF _ sm)⟩⟩
theorem oT{x}{ul}{cs}(h:oD w B vo vu vs vt x ul)(hs:Bk w s 135 cs)(i:Nat)(v):oD (w.setCell ⟨s,i,E⟩ v) B vo vu vs vt x ul:=
 ⟨h.ho.fw hs dc i,h.hu.fw hs dc i,h.hl.fw hs dc i,h.hs.fw hs dc i,h.ht.fw hs dc i⟩
theorem AO{x}{ul}{cs}(h:oD w B vo vu vs vt x ul)(k:Bk w s 135 cs)(a1 a2 a3 a4 a5 a6):oD (kS w s a1 a2 a3 a4 a5 a6) B vo vu vs vt x ul:=
 oT (oT (oT (oT (oT (oT h k 0 _) (k.set 0 a1) 1 _) ((k.set 0 a1).set 1 a2) 2 _) (((k.set 0 a1).set 1 a2).set 2 a3) 3 _) ((((k.set 0 a1).set 1 a2).set 2 a3).set 3 a4) 4 _) (((((k.set 0 a1).set 1 a2).set 2 a3).set 3 a4).set 4 a5) 5 _
theorem KF.kO(h:KF F V w)(hY:Y∈F)(a b c d e f):KF F V (kS w Y a b c d e f):=(((((h.st hY a).st hY b).st hY c).st hY d).st hY e).st hY f
theorem KF.dk{p:Nat}{S}(hk:KF F w w')(h:eF w p b S)(hp:p∉F)(hb:b∉F):eF w' p b S:=
 ⟨(hk.block p h.fo.lt hp).trans h.fo,h.own.block (hk.block b h.own.lt hb)⟩
theorem dk6{p:Nat}{S}(h:eF w p b S)(np:s≠p)(nb:s≠b)(d0 d1 d2 d3 d4 d5):eF (kS w s d0 d1 d2 d3 d4 d5) p b S:=Own.fr (Own.fr (Own.fr (Own.fr (Own.fr (Own.fr h np nb 0 d0) np nb 1 d1) np nb 2 d2) np nb 3 d3) np nb 4 d4) np nb 5 d5
theorem zs {L:List Ev}(hk:k<L.length){y x}(h:runs bf fL St.zero (L.take k)=G y)(hr:runs bf fL St.zero L=G x):∃ y',ft bf fL y L[k]=G y'/\runs bf fL St.zero (L.take (k+1))=G y'/\fL L[k]=Q:=by
 have hdec:L=L.take k++L[k]::L.drop (k+1):=by rw[<-aR hk,bA]
 rw[hdec,oX,h] at hr;simp only[Option.bind_some,runs] at hr;cases hst:ft bf fL y L[k] with
 | none=>rw[hst] at hr;cases hr
 | some y'=>
  refine⟨y',D,?_,?_⟩
  ·rw[aL hk,oX,h];simp[runs,hst]
  ·unfold ft at hst
   split at hst
   ·rename_i hh;exact hh.1
   ·cases hst
theorem RZ{an p:Nat}{S}{n:Int}(hf:Bk w an 135 #[av,av,aw,aw,aw,aw,I U 0,av,av])(hd:eF w p b S)(hB:Bd S)(hr:S.reads<=1000000)(hgo:SgM.In64 n)(l)(x)(hw1:CJ S (SgM.fS ⟨114,n⟩)=0)(hw2:CI S (SgM.fS ⟨114,n⟩)=mS l)(hrun:runs bf fL St.zero l=G x)(hl:l.length<=60)(hsz:(mS l).size<=1000000)(hGn:an∉[p,b])(hO:Gb O)(hOw:Bl O w)(hOF:∀ q∈[an,p,b],O.heap.size<=q):
 Calls prog 164 #[ptr an,ptr p,.agg #[I U 114,I J n]] w λe w'=>e= .returned av/\Vq w' an x 0 0 (l.length:Nat)/\eF w' p b {S with reads:=S.reads+MC S (SgM.fS ⟨114,n⟩)}/\KF [an,p,b] w w':=by
 have hGl:=(aa2.1 hf).1;have hpl:=hd.fo.lt;have hbl:=hd.own.lt;have hGp:an≠p/\an≠b:=by simp only[aE,aO,aQ,bN] at hGn;exact hGn
 have NM:=H (λW=>(show aai 100 #[.agg #[I U 114,I J n]] W (C (SgM.fS ⟨114,n⟩)) from SgM.ji ⟨114,n⟩ W hgo));have WH:=λW (hW:Bl w W)=>SgM.JJ (hd.fp hW) hB hr (n:=SgM.fS ⟨114,n⟩) kQ;unfold SgM.nC at WH;rw[hw1,aA D,hw2] at WH;replace WH:=H WH;generalize SgM.fS ⟨114,n⟩=nm at NM WH hw1 hw2 ⊢;obtain⟨tx,htx,HTX⟩:=nh (mS l);rw[<-htx] at WH;have hev:∀ e∈l,fL e=Q:=by
  intro e he;obtain⟨k,hk,rfl⟩:=List.getElem_of_mem he;have:∃ y,runs bf fL St.zero (l.take k)=G y:=by
   have hdec:l=l.take k++l.drop k:=(bA _ _).symm;rw[hdec,oX] at hrun;cases h:runs bf fL St.zero (l.take k) with
   | none=>rw[h] at hrun;cases hrun
   | some y=>exact⟨y,D⟩
  obtain⟨y,hy⟩:=this;exact(zs hk hy hrun).choose_spec.2.2
 have RE:=λW (hW:Bl O W)=>NP l om hev hsz W (hO.below hW (aB _));rw[<-htx] at RE;generalize (mS l).size=zz at RE;replace RE:=H RE;obtain⟨RS,HRUN,HOW,HOF⟩:=kB NI hrun hOw hOF;obtain⟨m,hm,HM⟩:=nh l.length;rw[<-hm] at hl ⊢;generalize MC S nm=rn at*;obtain⟨Y,V0,hY,hV0,BY,HB,HYw,SV⟩:=gC w #[I U 114,I J n] 133;obtain⟨y0,y1⟩:=ni BY;have hb0:=br V0;have HF0:=H (HB.bl hf);have hYn:Y∉[p,b]:=by simp only[aE,aO,aQ,bN];rw[HYw.out];omega
 have ky0:∀ W,KF [p,b] V0 W->W.cell? ⟨Y,0,E⟩=G (I U 114):=KF.all (F:=[p,b]) BY hYn 0 D;obtain⟨HGP,HGN,HGL⟩:=gi hGp hGn hGl;clear hd hB hr hgo hw1 hw2 hrun hsz hGn hO hOw hOF hev htx hm hYn hGl hpl hbl hGp
 go_enter func164,ntmps164
 go_upto_region 1 with fail
 rw[<-hV0,<-hY];clear hV0 hY
 go_upto_region 2 with(first | (go_at_call 100;refine qx (NM V0) λw1 hb1=>?_) | (go_at_call 226;refine(WH _ (HB.ca hb1)).mono ?_;rintro e w2 ⟨rfl,hd2,hk2⟩))
 have K2:KF [p,b] V0 w2:=(KF.of hb1).ca (KF.kp hk2 sm sm);obtain⟨HK2,HD2⟩:=eN K2 hd2;have y0':=ky0 w2 K2;have HF2:=H (K2.hp HF0 HGN);obtain⟨q0,q1,q2,q3,q4,q5,q6,q7,q8⟩:=Bk.f9 HF2;have qf:=λj=>Bk.fr HF2 j
 go_upto_region 6 with(go_at_call 165;refine qx (RS _) λw3 hb3=>?_;have HF3:=H (hb3.bl HF2);obtain⟨r0,r1,r2,r3,r4,r5,r6,r7,r8⟩:=Bk.f9 HF3;have rf:=λj=>Bk.fr HF3 j)
 have K5:Bk (kS w3 an av av aw aw aw aw) an 135 #[av,av,aw,aw,aw,aw,I U 0,av,av]:=Bk.put (Bk.put (Bk.put (Bk.put (Bk.put (Bk.put HF3 0 av) 1 av) 2 aw) 3 aw) 4 aw) 5 aw;have D5:=dk6 (HD2.fp hb3) HGP.out.1 HGP.out.2 av av aw aw aw aw;have L5:=KF.kO (((HK2.bl hb3).mono (an:=[an,p,b]) sm)) sm (Y:=an) av av aw aw aw aw;unfold kS at K5 D5 L5;generalize ((((((w3.setCell ⟨an,0,E⟩ av).setCell ⟨an,1,E⟩ av).setCell ⟨an,2,E⟩ aw).setCell ⟨an,3,E⟩ aw).setCell ⟨an,4,E⟩ aw).setCell ⟨an,5,E⟩ aw)=W5 at*;obtain⟨HK5,HD5,HL5⟩:=gi K5 D5 L5
 go_upto_region 7 with(go_at_call 228;refine aaj (RE _ ((HL5.yN (HOW.ca HB) HOF))) λv6 w6 hr6 hb6=>?_)
 obtain⟨A6,c6,rfl,_,_⟩:=hr6.form;rw[<-HM.out] at hr6 ⊢;obtain⟨HR6,HB6⟩:=eN hr6 hb6;have hG5:=(aa2.1 HK5).1;have HG5:=H hG5;clear hG5
 go_wp2_with fail
 go_loopw [43] (λi wr=>∃ k:Nat,k<=m/\i= I J k/\∃ y,runs bf fL St.zero (l.take k)=G y/\ik k y/\Vq wr an y 0 0 (k:Nat)/\KF [an] w6 wr) (λi _=>m - (intOf i).toNat)
 case atStart=>exact⟨0,aD _,D,St.zero,D,ik.zero,⟨_,_,_,_,[],HB6.bl HK5,⟨Rw.nil,Rw.nil,⟨D,λj h=>absurd h sm⟩,Rw.nil,Rw.nil⟩⟩,KF.eH⟩
 case round=>
  obtain⟨k,hk,rfl,y,hry,hiy,⟨vo,vu,vs,vt,ul,hby,hsy⟩,hkr⟩:=hrel;by_cases hlt:k<m
  ·have hk':k<l.length:=by rw[<-HM.out];exact hlt
   obtain⟨y',hst,hry',hre⟩:=zs hk' hry HRUN;obtain⟨g6,rfl,hg6,_,c0,c1,c2,c3,c4,c5⟩:=Rw.FK HR6 k hk';have hgG:g6∉[an]:=by have:=HG5.out;simp only[bP];omega
   have e0:=hkr.ce (c0 w6 Bl.eH) hgG;have e1:=hkr.ce (c1 w6 Bl.eH) hgG;have e2:=hkr.ce (c2 w6 Bl.eH) hgG;have e3:=hkr.ce (c3 w6 Bl.eH) hgG;have e4:=hkr.ce (c4 w6 Bl.eH) hgG;have e5:=hkr.ce (c5 w6 Bl.eH) hgG;have hes:=jC hre;have AP0:=λW (hW:Bl wr W)=>Ak y y' (jd y vo vu vs vt) 0 l[k] W ⟨vo,vu,vs,vt,ul,D,hsy.bl hW⟩ (hiy.f.up om) hiy.u hiy.t om om hst;obtain⟨HIY,HRY⟩:=eN (hiy.step om om hst) hry';unfold ApP Ev.v Ev.cells at AP0;generalize l[k]=ek at*;obtain⟨ek0,ek1,ek2,ek3,ek4,ek5⟩:=ek;dsimp only at e0 e1 e2 e3 e4 e5 AP0;obtain⟨i1,i2⟩:=ln (k:=k) (m:=m) om;have i3:IntKind.i64.wrap ((k:Int)+1)=(k:Int)+1:=jh om;obtain⟨⟨C1,n1,d1,rfl⟩,⟨C2,n2,d2,rfl⟩,⟨C3,n3,d3,rfl⟩,C4,n4,d4,rfl⟩:=hsy.nr;unfold jd at AP0;obtain⟨AP1,HBY⟩:=eN AP0 hby
   have HKR:=H hkr;clear hst hry hiy hsy hkr hby hry' hre hes hgG
   go_upto_region 10 with fail
   obtain⟨V9,Eb,hV9,hEb,BEb,LV9⟩:=iC wr #[I J ek0,I J ek1,C ek2,C ek3,I J ek4,I J ek5] 115;rw[<-hV9,<-hEb];clear hV9;replace hEb:=H hEb;obtain⟨eb0,eb1,eb2,eb3,eb4,eb5⟩:=jg BEb;have AP:=H (λW (hW:Bl V9 W)=>AP1 W (LV9.ca hW));have eb:=Bk.all BEb;have E0:=Bk.all BEb 0 D;have E1:=Bk.all BEb 1 D;have E2:=Bk.all BEb 2 D;have E3:=Bk.all BEb 3 D;have E4:=Bk.all BEb 4 D;have E5:=Bk.all BEb 5 D;have HBY9:=H (LV9.bl HBY);have f0:=Bk.all HBY9 0 D;have f1:=Bk.all HBY9 1 D;have f2:=Bk.all HBY9 2 D;have f3:=Bk.all HBY9 3 D;have f4:=Bk.all HBY9 4 D;have f5:=Bk.all HBY9 5 D;clear eb;refine jI (T:=TT) (S:=Bl V9) [10] trivial (Bl.dr Bl.eH) λhT0 hS0=>?_
   try dsimp only at hT0 hS0
   refine aaa [0,1,2] ?_;refine td 3 ?_;refine td 4 ?_;refine ti 5 9 (λKQ hK=>?_) λKQ hK=>?_
   focus
    go_simp
    (go_at_call 131;refine aaj (AP _ hS0) λv7 w7 hs7 hb7=>?_)
    have hSC:=hS0;obtain⟨vo7,vu7,vs7,vt7,ul7,rfl,hr7⟩:=hs7;replace hr7:=hr7.iD (aD _);obtain⟨⟨B1,m1,e1,rfl⟩,⟨B2,m2,e2,rfl⟩,⟨B3,m3,e3,rfl⟩,B4,m4,e4,rfl⟩:=hr7.nr;unfold jd
    try (replace hG:=Bl.bl hb7 hG;obtain⟨g0,g1,g2,g3,g4,g5⟩:=rX hG;have gf:=λj=>Bk.fr hG j)
    have hT1:=hT0.ca hb7;have hS1:=hS0.ca hb7;refine kq hK ?_;refine aaa [6,7,8] ?_;refine eK 9 λKQ hK=>?_;go_simp;obtain⟨hG,hGs,hT2,hS2⟩:=alt hT1 hS1 #[av,av,aw,aw,aw,aw] 131
    try (replace hG:=zW hG;replace hGs:=zV hGs)
    obtain⟨g0,g1,g2,g3,g4,g5⟩:=jF hG;have gf:=λj=>Bk.fr hG j;refine kq hK ?_;refine eK 10 λKQ hK=>?_;go_simp;refine fJ (hK _ _) trivial (eI (j:=10) kr kr) (λhT3=>?_)
    try dsimp only at hT3
    try simp only[gz,fI]
    refine tz 11 hT3 (eI (j:=10) kr kr) ?_;refine iU ?_;have hL:=hS2
   rotate_left 1
   focus
    go_simp;obtain⟨hG,hGs,hT1,hS1⟩:=alt hT0 hS0 #[av,av,aw,aw,aw,aw] 131
    try (replace hG:=zW hG;replace hGs:=zV hGs)
    obtain⟨g0,g1,g2,g3,g4,g5⟩:=jF hG;have gf:=λj=>Bk.fr hG j;refine kq hK ?_;refine eK 5 λKQ hK=>?_;go_simp
    (go_at_call 131;refine aaj (AP _ hS1) λv7 w7 hs7 hb7=>?_)
    have hSC:=hS1;obtain⟨vo7,vu7,vs7,vt7,ul7,rfl,hr7⟩:=hs7;replace hr7:=hr7.iD (aD _);obtain⟨⟨B1,m1,e1,rfl⟩,⟨B2,m2,e2,rfl⟩,⟨B3,m3,e3,rfl⟩,B4,m4,e4,rfl⟩:=hr7.nr;unfold jd
    try (replace hG:=Bl.bl hb7 hG;obtain⟨g0,g1,g2,g3,g4,g5⟩:=rX hG;have gf:=λj=>Bk.fr hG j)
    have hT2:=hT1.ca hb7;have hS2:=hS1.ca hb7;refine kq hK ?_;refine aaa [6,7,8] ?_;refine eK 10 λKQ hK=>?_;go_simp;refine fJ (hK _ _) trivial (eI (j:=10) kr kr) (λhT3=>?_)
    try dsimp only at hT3
    try simp only[gz,fI]
    refine tz 11 hT3 (eI (j:=10) kr kr) ?_;refine iU ?_;have hL:=hS2
   rotate_left 1
   all_goals
    first
     | (have q:Bk w7 _ 131 _:=hG
        have hL6:=hL.kO hGs (I J y'.now) (I J y'.fb) (Z B1 m1 e1) (Z B2 m2 e2) (Z B3 m3 e3) (Z B4 m4 e4);unfold kS at hL6;have r6:=hr7.kO hG (I J y'.now) (I J y'.fb) (Z B1 m1 e1) (Z B2 m2 e2) (Z B3 m3 e3) (Z B4 m4 e4);unfold kS at r6;have k6:Bk _ _ 131 #[I J y'.now,I J y'.fb,Z B1 m1 e1,Z B2 m2 e2,Z B3 m3 e3,Z B4 m4 e4]:=Bk.set (Bk.set (Bk.set (Bk.set (Bk.set (Bk.set hG 0 (I J y'.now)) 1 (I J y'.fb)) 2 (Z B1 m1 e1)) 3 (Z B2 m2 e2)) 4 (Z B3 m3 e3)) 5 (Z B4 m4 e4);clear q hL hG;generalize (((((((w7:World).setCell ⟨_,0,E⟩ (I J y'.now)).setCell ⟨_,1,E⟩ (I J y'.fb)).setCell ⟨_,2,E⟩ (Z B1 m1 e1)).setCell ⟨_,3,E⟩ (Z B2 m2 e2)).setCell ⟨_,4,E⟩ (Z B3 m3 e3)).setCell ⟨_,5,E⟩ (Z B4 m4 e4))=W6 at*;generalize V9.heap.size=X at k6 ⊢;skip)
     | (have hL6:=(hSC.ca hb7).al (.cells #[I J y'.now,I J y'.fb,Z B1 m1 e1,Z B2 m2 e2,Z B3 m3 e3,Z B4 m4 e4] 131)
        have r6:=hr7.bl (gl w7 (.cells #[I J y'.now,I J y'.fb,Z B1 m1 e1,Z B2 m2 e2,Z B3 m3 e3,Z B4 m4 e4] 131));have k6:Bk _ _ 131 #[I J y'.now,I J y'.fb,Z B1 m1 e1,Z B2 m2 e2,Z B3 m3 e3,Z B4 m4 e4]:=eL w7 (.cells #[I J y'.now,I J y'.fb,Z B1 m1 e1,Z B2 m2 e2,Z B3 m3 e3,Z B4 m4 e4] 131);clear hL hG;generalize (w7.alloc (.cells #[I J y'.now,I J y'.fb,Z B1 m1 e1,Z B2 m2 e2,Z B3 m3 e3,Z B4 m4 e4] 131))=W6 at*;generalize w7.heap.size=X at k6 ⊢;skip)
   all_goals
    obtain⟨HL6,HX6,HR6',HB6'⟩:=kB hL6 k6 r6 (hL6.bl HBY9);obtain⟨x0,x1,x2,x3,x4,x5⟩:=Bk.f6 HX6;obtain⟨z0,z1,z2,z3,z4,z5,z6,z7,z8⟩:=Bk.f9 HB6';have zf:=λj=>Bk.fr HB6' j;clear hL6
    go_upto_region 13 with fail
    have K13:Bk (kS W6 an (I J y'.now) (I J y'.fb) (Z B1 m1 e1) (Z B2 m2 e2) (Z B3 m3 e3) (Z B4 m4 e4)) an 135 #[I J y'.now,I J y'.fb,Z B1 m1 e1,Z B2 m2 e2,Z B3 m3 e3,Z B4 m4 e4,I U 0,av,I J (k:Nat)]:=Bk.put (Bk.put (Bk.put (Bk.put (Bk.put (Bk.put HB6' 0 _) 1 _) 2 _) 3 _) 4 _) 5 _;have R13:=AO HR6' HB6' (I J y'.now) (I J y'.fb) (Z B1 m1 e1) (Z B2 m2 e2) (Z B3 m3 e3) (Z B4 m4 e4);have L13:=KF.kO (F:=[an]) (HKR.bl (LV9.ca HL6)) sm (Y:=an) (I J y'.now) (I J y'.fb) (Z B1 m1 e1) (Z B2 m2 e2) (Z B3 m3 e3) (Z B4 m4 e4);unfold kS at K13 R13 L13;generalize ((((((W6.setCell ⟨an,0,E⟩ (I J y'.now)).setCell ⟨an,1,E⟩ (I J y'.fb)).setCell ⟨an,2,E⟩ (Z B1 m1 e1)).setCell ⟨an,3,E⟩ (Z B2 m2 e2)).setCell ⟨an,4,E⟩ (Z B3 m3 e3)).setCell ⟨an,5,E⟩ (Z B4 m4 e4))=W13 at*;obtain⟨HK13,HR13,HL13⟩:=gi K13 R13 L13;obtain⟨z0,z1,z2,z3,z4,z5,z6,z7,z8⟩:=Bk.f9 K13;have zf:=λj=>Bk.fr HK13 j
    go_wp2_with fail
    exact⟨⟨k+1,hlt,eB,y',HRY,HIY,⟨_,_,_,_,_,Bk.put HK13 8 _,oT HR13 HK13 8 _⟩,HL13.st sm _⟩,eE⟩
  ·have ek:k=m:=om;have i1:¬(k:Int)<m:=om;subst ek;obtain⟨HE,HFA,HKR⟩:=gi (show y=x by rw[HM.out,aT,HRUN.out] at hry;injection hry with hry;exact hry.symm) (show Vq wr an y 0 0 (k:Nat) from⟨vo,vu,vs,vt,ul,hby,hsy⟩) hkr;clear hry hiy hby hsy hkr
   go_wp2_with fail
   go_ret;refine⟨D,HE.out▸HFA.out,HKR.dk (HD5.fp HB6) (by simp[HGP.out.1.symm]) (by simp[HGP.out.2.symm]),((KF.of HB).ca HL5).ca ((KF.of HB6).ca (HKR.mono sm))⟩
theorem KF.drop{an:Nat}(h:KF (an::F) V W)(hw:KF F w V)(hG:w.heap.size<=an):KF F w W:=
 ⟨h.os.trans hw.os,h.tape.trans hw.tape,h.output.trans hw.output,aH hw.size h.size,λk hk hn=>(h.block k (bK hk hw.size) (by simp only[aE,bN];exact⟨om,hn⟩)).trans (hw.block k hk hn)⟩
theorem Yg{p c1 c2:Nat}{A2:Option Addr}{S}{n:Int}(hd:eF w p b S)(q0:w.cell? ⟨q,0,E⟩=G (I U 114))(q1:w.cell? ⟨q,1,E⟩=G (I J n))(hgo:SgM.In64 n)(hs:(px (gG S.L (SgM.fS ⟨114,n⟩))).size<=9223372036854775807)(hz:(px (gG S.L (SgM.fS ⟨114,n⟩))).size=FH (gG S.L (SgM.fS ⟨114,n⟩))):
 aai 96 #[ptr p,.agg #[I U 0,av,.bool z,Z (G ⟨q,0,E⟩) 1 c1,Z A2 0 c2]] w av:=by
 obtain⟨F9,NM⟩:=eN G9 (λW=>(show aai 100 #[.agg #[I U 114,I J n]] W (C (SgM.fS ⟨114,n⟩)) from SgM.ji ⟨114,n⟩ W hgo));have LO:=λW (hW:Bl w W)=>Ds.KG (hd.fp hW) (n:=SgM.fS ⟨114,n⟩) kQ hs om;rw[hz,Int.sub_self] at LO;replace LO:=H LO;generalize SgM.fS ⟨114,n⟩=nm at NM LO;obtain⟨X,V0,hX,hV0,BX,BY,HB,HXw,SV⟩:=lj w #[ptr p] 75 #[I U 0,av,.bool z,Z (G ⟨q,0,E⟩) 1 c1,Z A2 0 c2] 179;have x0:=BX.all 0 D;obtain⟨y0,y1,y2,y3,y4⟩:=wY BY;have Q0:=HB.ce q0;have Q1:=HB.ce q1;have HX:=H BX;have hb0:=br V0;clear hd hs hz q0 q1 hgo
 go_enter func96,ntmps96
 go_upto_region 1 with fail
 rw[<-hV0,<-hX];clear hV0 hX
 go_wp2_with fail
 go_loopw [14,5] (λi o wr=>i= I J 0/\o= Z E 0 0/\wr=V0) (λ_ _ _=>0)
 case atStart=>exact⟨D,D,D⟩
 case round=>
  obtain⟨rfl,rfl,e⟩:=hrel;rw[e];clear e
  go_wp2_with fail
  go_loopw [26,5] (λi o wr=>∃ k:Nat,k<=1/\i= I J k/\o= Z E 0 0/\Bl V0 wr) (λi _ _=>1 - (intOf i).toNat)
  case atStart=>exact⟨0,om,D,D,Bl.eH⟩
  case round=>
   obtain⟨k,hk,rfl,rfl,hb⟩:=hrel;have HB2:=H hb;rcases bZ k 1 with h1 | h1
   ·obtain rfl:k=0:=om;have R0:=hb.ce Q0;have R1:=hb.ce Q1;have X0:=x0 wr hb
    go_upto_region 10 with fail
    obtain⟨V9,ag,hV9,hZ,BZ,LV9⟩:=iC wr #[I U 114,I J n] 133;rw[<-hV9,<-hZ];clear hV9;replace hZ:=H hZ;obtain⟨z0,z1⟩:=ni BZ;have hb9:=br V9;have X9:=LV9.ce X0
    go_upto_region 11 with(go_at_call 100;refine qx (NM _) λw10 hb10=>?_)
    have X10:=hb10.ce X9;obtain⟨L10,K10⟩:=eN (HB.ca (HB2.ca (LV9.ca hb10))) (HB2.ca (LV9.ca hb10));obtain⟨V10,T,hV10,hT,BT,LV10⟩:=iC w10 #[C nm] 9;rw[<-hV10,<-hT];clear hV10;replace hT:=H hT;have t0:=BT.all 0 D;have hb11':Bl V10 V10:=Bl.eH;have X11:=LV10.ce X10
    go_wp2_with (go_at_call 158;refine qx (LO _ (L10.ca LV10)) λw11 hb11=>?_)
    exact⟨⟨1,om,eB,D,K10.ca (LV10.ca hb11)⟩,fV⟩
   ·obtain rfl:k=1:=om
    go_wp2_with (go_at_call 160;refine QS (F9 _) ?_)
    go_ret;exact⟨D,HB.ca HB2⟩
theorem Z5{an bx p:Nat}{n:Int}{R:World->Prop}(hX:w.cell? ⟨X,0,E⟩=G (ptr p))(hbx:Bk w bx 133 #[I U 114,I J n])
 (h:Calls prog 164 #[ptr an,ptr p,.agg #[I U 114,I J n]] w λe w'=>e= .returned av/\R w'):
 Calls prog 163 #[ptr an,ptr X,ptr bx] w λe w'=>e= .returned av/\R w':=by
 have b0:=hbx.ce 0;have b1:=hbx.ce 1;have HS:=H h;clear hbx h
 go_enter func163,ntmps163
 go_wp2_with (go_at_call 164;refine qx HS λw1 hr1=>?_)
 have HR:=H hr1
 go_wp2_with fail
 go_ret;exact⟨D,HR⟩
theorem Ie{x}{ul}{cs}(h:oD w B vo vu vs vt x ul)(k:Bk w s 135 cs)(a1 a2 a3 a4 a5 a6 a7 a8 a9):oD (No w s a1 a2 a3 a4 a5 a6 a7 a8 a9) B vo vu vs vt x ul:=
 oT (oT (oT (AO h k a1 a2 a3 a4 a5 a6) ((((((k.set 0 a1).set 1 a2).set 2 a3).set 3 a4).set 4 a5).set 5 a6) 6 _) (((((((k.set 0 a1).set 1 a2).set 2 a3).set 3 a4).set 4 a5).set 5 a6).set 6 a7) 7 _) ((((((((k.set 0 a1).set 1 a2).set 2 a3).set 3 a4).set 4 a5).set 5 a6).set 6 a7).set 7 a8) 8 _
def RpS (V W:World)(o:Value)(an X:Nat)(n:Int):Prop:=∃ g c bx,o= Z (G ⟨g,0,E⟩) 1 c/\W.cell? ⟨g,0,E⟩=G (.func (.func 163) #[] #[ptr an,ptr X,ptr bx])/\Bk W bx 133 #[I U 114,I J n]/\V.heap.size<=g/\V.heap.size<=bx/\Bl V W
theorem Pn:(prog.info? 169).map (λi=>(i.zero,i.size,i.bytes))=G (G .nilFunc,1,8):=kr
theorem ZO:Ty 253 169 1 8:=⟨underlying253,fz Pn D,dc,dc⟩
def YU (v:Value):List Value:=[v]
theorem Sz{p c1 c2:Nat}{A2:Option Addr}{S}{n:Int}(q0:w.cell? ⟨q,0,E⟩=G (I U 114))(q1:w.cell? ⟨q,1,E⟩=G (I J n))(hd:eF w p b S)(hB:Bd S)(hr:S.reads<=1000000)(hgo:SgM.In64 n)(l)(x)(hw1:CJ S (SgM.fS ⟨114,n⟩)=0)(hw2:CI S (SgM.fS ⟨114,n⟩)=mS l)(hrun:runs bf fL St.zero l=G x)(hl:l.length<=60)(hsz:(mS l).size<=1000000)(hxo:x.op=[])(hxf:pY 60 x)(hO:Gb O)(hOw:Bl O w)(hOF:∀ q∈[p,b],O.heap.size<=q):
 Calls prog 97 #[ptr p,.agg #[I U 0,av,.bool z,Z (G ⟨q,0,E⟩) 1 c1,Z A2 0 c2]] w λe w'=>∃ vo vu vs vt ul,e= .returned (.tuple #[.agg #[I J x.now,I J x.fb,vo,vu,vs,vt,I U 0,av,I J (l.length:Nat)],av])/\oD w' 0 vo vu vs vt x ul/\eF w' p b {S with reads:=S.reads+MC S (SgM.fS ⟨114,n⟩)}/\KF [p,b] w w':=by
 have hpl:=hd.fo.lt;have hbl:=hd.own.lt;obtain⟨SEG,HPB,RS,HOw⟩:=kB (λ(W:World) (an:Nat) (hW:KF [p,b] w W) (hf:Bk W an 135 #[av,av,aw,aw,aw,aw,I U 0,av,av]) (hD:eF W p b S) (hG1:an≠p) (hG2:an≠b) (hG3:O.heap.size<=an)=>RZ hf hD hB hr hgo l x hw1 hw2 hrun hl hsz (by simp[hG1,hG2]) hO (hW.yN hOw hOF) (by intro au hz;simp only[aE,aO,aQ] at hz;rcases hz with rfl | rfl | rfl;exact hG3;exact hOF _ sm;exact hOF _ sm)) (aJ hpl hbl) (λv W (h:iW W 0 v x)=>Gs x v 0 W h hxf hxo) hOw.size;obtain⟨S',hS'⟩:=fe ({S with reads:=S.reads+MC S (SgM.fS ⟨114,n⟩)});rw[<-hS'] at SEG ⊢;generalize l.length=m at SEG ⊢;obtain⟨X,V0,hX,hV0,BX,BY,BZ,HB,HXw,SV⟩:=qh w #[ptr p] 75 #[I U 0,av,.bool z,Z (G ⟨q,0,E⟩) 1 c1,Z A2 0 c2] 179 #[av,av,aw,aw,aw,aw,I U 0,av,av] 135;have x0:=BX.all 0 D;obtain⟨y0,y1,y2,y3,y4⟩:=wY BY;obtain⟨z0,z1,z2,z3,z4,z5,z6,z7,z8⟩:=Rg BZ;obtain⟨HZ,HX⟩:=eN BZ BX;have Q0:=HB.ce q0;have Q1:=HB.ce q1;have HD0:=H (hd.fp HB);have hb0:=br V0;clear hd hB hr hgo hw1 hw2 hrun hl hsz hxo hxf hO hOw hOF hS' q0 q1 hpl hbl
 go_enter func97,ntmps97
 go_upto_region 1 with fail
 rw[<-hV0,<-hX];clear hV0 hX
 go_upto_region 2 with fail
 obtain⟨V2,an,hV2,hG,BG,LV2⟩:=iC V0 #[av,av,aw,aw,aw,aw,I U 0,av,av] 135;rw[<-hV2,<-hG];clear hV2;replace hG:=H hG;obtain⟨g0,g1,g2,g3,g4,g5,g6,g7,g8⟩:=Rg BG;have HG:=H BG;have hb2:Bl V0 V2:=LV2.out;have HD2:=H (HD0.fp LV2);have Q0':=LV2.ce Q0;have Q1':=LV2.ce Q1;obtain⟨HX2,HZ2⟩:=eN (LV2.bl HX) (LV2.bl HZ)
 go_upto_region 6 with fail
 go_loopw [20,7] (λi o wr=>(i= I J 0/\o= Z E 0 0/\wr=V2)∨(i= I J 1/\RpS V2 wr o an X n)) (λi _ _=>1 - (intOf i).toNat)
 case atStart=>exact .inl ⟨D,D,D⟩
 case round=>
  rcases hrel with⟨rfl,rfl,rfl⟩ | ⟨rfl,hrs⟩
  ·go_upto_region 8 with fail
   obtain⟨V7,bx,hV7,hbx,Bbx,LV7⟩:=iC wr #[I U 114,I J n] 133;rw[<-hV7,<-hbx];clear hV7;replace hbx:=H hbx;obtain⟨bx0,bx1⟩:=ni Bbx;have HBX:=H Bbx
   go_wp2_with (at_builtin;refine fH ZO D _ _ D (V7.alloc (.cells #[.func (.func 163) #[] #[ptr an,ptr X,ptr bx]] 169)).heap.size D (Rw.nil (f:=YU)) D (eL _ _) (y:=.func (.func 163) #[] #[ptr an,ptr X,ptr bx]) D D (by simp[YU,Value.oneCell']) sm (aB _) ?_;intro v7 w7 ho7 hk7)
   have hb7:=hk7 _ D Bl.eH;rw[bO] at ho7;obtain⟨A7,c7,rfl,_,_⟩:=ho7.form;obtain⟨g7,rfl,hg7,_,cc⟩:=Rw.Js (c0:=id) (λ_=>rfl) ho7 0 sm;exact⟨.inr ⟨eB,g7,c7,bx,D,cc _ Bl.eH,hb7.bl ((gl _ _).bl HBX),by have h1:=LV7.size;simp at hg7;omega,by rw[hbx.out];exact aB _,(LV7.ca (gl _ _)).ca hb7⟩,fV⟩
  ·obtain⟨g,c,bx,rfl,hc,hbx,hg,hbx2,hb⟩:=hrs;have hGe:=hG.out;have hSV:=SV.out;have hXe:=HXw.out;have hV2:=(aa2.1 HG).1;have hpl:=HPB.out;have hVw:=LV2.size;have hzw:=HOw.out;have hgF:g∉[an,p,b]:=by simp only[aE,aO,aQ,bN];omega
   have hX0:=hb.ce (Bk.ce HX2 0);have hKw:KF [p,b] w wr:=KF.of ((HB.ca LV2).ca hb);have F9:=H (Vb.1 (w:=wr) (g:=g) (n:=1) (c:=c) (λ_=>163) (λ_=>#[ptr an,ptr X,ptr bx]) (λk W=>KF [an,p,b] wr W/\(k=0->W=wr)/\(k=1->Vq W an x 0 0 (m:Nat)/\eF W p b S')) dc ⟨KF.eH,λ_=>rfl,λh=>by cases h⟩
    (λk hk W hq=>by
     obtain rfl:k=0:=om;exact hq.1.ce hc hgF)
    (λk hk W=>enters_of func163 kr D _ W)
    (λk hk W hq=>by
     obtain rfl:k=0:=om;obtain rfl:=hq.2.1 D;exact(Z5 (R:=λw'=>Vq w' an x 0 0 (m:Nat)/\eF w' p b S'/\KF [an,p,b] W w') hX0 hbx (SEG W an hKw (hb.bl HG) (HD2.fp hb) om om om)).mono λe w' ⟨h1,h2,h3,h4⟩=>⟨h1,h4,λh=>by omega,λ_=>⟨h2,h3⟩⟩))
   obtain⟨HHW,HZr,HZn,HGw⟩:=kB hKw (hb.bl HZ2) (show X+2∉[an,p,b] by simp only[aE,aO,aQ,bN];omega) (show w.heap.size<=an by omega);clear hc hbx hg hbx2 hGe hXe hV2 hpl hVw hzw hgF hX0 hKw
   go_upto_region 11 with(go_at_call 160;refine qx F9 λw10 hq10=>?_)
   have HK10:=H hq10.1;have HD10:=H (hq10.2.2 (by trivial)).2;obtain⟨vo,vu,vs,vt,ul,hby,hsy⟩:=(hq10.2.2 (by trivial)).1;obtain⟨⟨C1,n1,d1,rfl⟩,⟨C2,n2,d2,rfl⟩,⟨C3,n3,d3,rfl⟩,C4,n4,d4,rfl⟩:=hsy.nr;have RS2:=RS _ w10 ⟨_,_,_,_,ul,D,hsy⟩;unfold jd at RS2;replace RS2:=H RS2;have HBY:=H hby
   obtain⟨f0,f1,f2,f3,f4,f5,f6,f7,f8⟩:=Bk.f9 hby
   clear hby hsy
   go_upto_region 14 with(go_at_call 165;refine RS2.mono ?_;rintro e w11 ⟨v11,rfl,⟨vo1,vu1,vs1,vt1,ul1,rfl,hr1⟩,hb11⟩;obtain⟨⟨D1,k1,e1,rfl⟩,⟨D2,k2,e2,rfl⟩,⟨D3,k3,e3,rfl⟩,D4,k4,e4,rfl⟩:=hr1.nr;unfold jd;have HG11:=H (hb11.bl HBY);obtain⟨z0,z1,z2,z3,z4,z5,_,_,_⟩:=Bk.f9 HG11;have zf:=λj=>Bk.fr HG11 j)
   have hGp:an≠p/\an≠b:=by have:=HPB.out;have h2:=HGw.out;omega
   have K6:=Bk.put (Bk.put (Bk.put (Bk.put (Bk.put (Bk.put HG11 0 (I J x.now)) 1 (I J x.fb)) 2 (Z D1 k1 e1)) 3 (Z D2 k2 e2)) 4 (Z D3 k3 e3)) 5 (Z D4 k4 e4);have R6:=AO (hr1.iD (aD _)) HG11 (I J x.now) (I J x.fb) (Z D1 k1 e1) (Z D2 k2 e2) (Z D3 k3 e3) (Z D4 k4 e4);have L6:=KF.kO (F:=[an,p,b]) (HK10.bl hb11) sm (Y:=an) (I J x.now) (I J x.fb) (Z D1 k1 e1) (Z D2 k2 e2) (Z D3 k3 e3) (Z D4 k4 e4);have D6:=dk6 (HD10.fp hb11) hGp.1 hGp.2 (I J x.now) (I J x.fb) (Z D1 k1 e1) (Z D2 k2 e2) (Z D3 k3 e3) (Z D4 k4 e4);unfold kS at R6 L6 D6;clear hGp;generalize ((((((w11.setCell ⟨an,0,E⟩ (I J x.now)).setCell ⟨an,1,E⟩ (I J x.fb)).setCell ⟨an,2,E⟩ (Z D1 k1 e1)).setCell ⟨an,3,E⟩ (Z D2 k2 e2)).setCell ⟨an,4,E⟩ (Z D3 k3 e3)).setCell ⟨an,5,E⟩ (Z D4 k4 e4))=W6 at*;have K6':Bk W6 an 135 #[I J x.now,I J x.fb,Z D1 k1 e1,Z D2 k2 e2,Z D3 k3 e3,Z D4 k4 e4,I U 0,av,I J (m:Nat)]:=K6;have HZ6:=H (L6.hp HZr HZn);obtain⟨g0,g1,g2,g3,g4,g5,g6,g7,g8⟩:=Bk.f9 K6';obtain⟨r0,r1,r2,r3,r4,r5,r6,r7,r8⟩:=Bk.f9 HZ6;have rf:=λj=>Bk.fr HZ6 j;obtain⟨HR6,HL6,HD6⟩:=gi R6 L6 D6
   go_wp2_with fail
   have h1:=HXw.out;have h2:=HPB.out;refine aa1 (eM (p:=4) (a:=5) D _ _ _ _ _ _ _ D (Bk.s9 HZ6 _ _ _ _ _ _ _ _ _) underlying135 D uc) D ⟨_,_,_,_,ul1,D,Ie HR6 HZ6 _ _ _ _ _ _ _ _ _,dk9 HD6 om om _ _ _ _ _ _ _ _ _,(KF.drop HL6 HHW HGw).s9 om _ _ _ _ _ _ _ _ _⟩
theorem PV{p:Nat}{S}(h:eF w p b S)(hB:Bd S):Calls prog 60 #[ptr p] w λe w'=>∃ v,e= .returned v/\SgM.pW w' v (S.L.map (·.n))/\Bl w w':=by
 refine(Ds.vj h hB).mono ?_;rintro e w' ⟨v,rfl,⟨A,c,rfl,hc⟩,hb⟩;refine⟨_,D,⟨A,c,sm,λhne=>?_⟩,hb⟩;have h0:0<S.L.length:=by
  cases hl:S.L with
  | nil=>rw[hl] at hne;exact absurd D hne
  | cons=>simp
 obtain⟨g,rfl,_,hg,hk⟩:=hc h0;exact⟨g,0,D,hg,λk hk'=>by rw[aZ,hk k (by simpa using hk')];simp⟩
theorem aac{v}(h:SgM.pW w v [SgM.fS ⟨114,0⟩]):Calls prog 95 #[v] w λe w'=>∃ q c1 A2 c2,e= .returned (.agg #[I U 0,av,.bool z,Z (G ⟨q,0,E⟩) 1 c1,Z A2 0 c2])/\oy w' (Z (G ⟨q,0,E⟩) 1 c1) [⟨114,0⟩]/\w'.cell? ⟨q,0,E⟩=G (I U 114)/\w'.cell? ⟨q,1,E⟩=G av/\w.heap.size<=q/\Bl w w':=by
 refine(SgM.Bv h dc).mono ?_;rintro e w' ⟨vs,vt,rfl,h1,h2,hb⟩;rw[show xy (uq (qj [SgM.fS ⟨114,0⟩]))=E by kernel_rfl,show iT (uq (qj [SgM.fS ⟨114,0⟩])) E=[⟨114,0⟩] by kernel_rfl] at h1;rw[show xy (uq (qj [SgM.fS ⟨114,0⟩]))=E by kernel_rfl,show oA (uq (qj [SgM.fS ⟨114,0⟩])) E=[] by kernel_rfl] at h2;rw[show xy (uq (qj [SgM.fS ⟨114,0⟩]))=E by kernel_rfl];obtain⟨A2,c2,rfl⟩:=SgM.im h2;have hr:=oy.own h1;rcases h1.2 with⟨_,h0⟩ | ⟨g,cap,cur,rfl,hg,hh,_⟩
 ·exact absurd h0 sm
 ·obtain⟨A,cp,he,hc⟩:=hr;injection he with e1 e2 e3
  obtain⟨g',off,e4,_,hcc⟩:=hc sm;rw[e4] at e1;injection e1 with e1
  injection e1 with e5 e6
  subst e5;subst e6;have hc0:=hcc 0 sm;simp only[Nat.zero_mul,dA,aZ] at hc0;exact⟨g,cap,A2,c2,D,oy.own h1,hc0.1,hc0.2,hg,hb⟩
theorem YK{c1 c2:Nat}{A2}(h:oy w (Z (G ⟨q,0,E⟩) 1 c1) [⟨114,0⟩]):aai 98 #[.agg #[I U 0,av,.bool z,Z (G ⟨q,0,E⟩) 1 c1,Z A2 0 c2]] w (I J 1):=by
 refine qx (SgM.qF (o:=E) (L:=[⟨114,0⟩]) (B:=A2) (nt:=0) (ct:=c2) h dk dc) λw' hb=>?_;exact⟨aP (λau=>Ending.returned (I J au)) (show Tj z 0 [⟨114,0⟩]=1 by decide+kernel),hb⟩
theorem WM{p:Nat}{S}(h:eF w p b S)(hB:Bd S)(hr:S.reads<=1000000)(hnm:S.L.map (·.n)=[SgM.fS ⟨114,0⟩])(hdn:S.down=z)(l:List Ev)(x:St)(hz:(px (gG S.L (SgM.fS ⟨114,0⟩))).size=FH (gG S.L (SgM.fS ⟨114,0⟩)))(hne:(px (gG S.L (SgM.fS ⟨114,0⟩))).size≠0)(hs:(px (gG S.L (SgM.fS ⟨114,0⟩))).size<=1000000)
 (hw1:CJ S (SgM.fS ⟨114,0⟩)=0) (hw2:CI S (SgM.fS ⟨114,0⟩)=mS l) (hrun:runs bf fL St.zero l=G x) (hl:l.length<=60) (hsz:(mS l).size<=1000000) (hxo:x.op=[]) (hxf:pY 60 x) (hwn:MC S (SgM.fS ⟨114,0⟩)<=1000000)
 (S':Dk) (hS':S'= {S with reads:=S.reads+MC S (SgM.fS ⟨114,0⟩)}) (hC:(jY S' (SgM.fS ⟨114,1⟩)).2=0) {O:World} (hO:Gb O) (hOw:Bl O w) (hOF:∀ q∈[p,b],O.heap.size<=q):
 Calls prog 61 #[ptr p] w λe w'=>∃ vo vu vs vt ul,e= .returned (.tuple #[.agg #[I J x.now,I J x.fb,vo,vu,vs,vt,I U 114,I J 1,I J (l.length:Nat)],av])/\oD w' 0 vo vu vs vt x ul/\eF w' p b (jY S' (SgM.fS ⟨114,1⟩)).1/\KF [p,b] w w':=by
 have HPB:=H (show p<w.heap.size/\b<w.heap.size from⟨h.fo.lt,h.own.lt⟩);have hB':Bd S':=by rw[hS'];exact SgM.Fp hB _ (by have:=hB.th;omega) om
 have hL':S'.L=S.L:=by rw[hS']
 obtain⟨X,V0,hX,hV0,BX,HB,HXw,SV⟩:=gC w #[av,av,aw,aw,aw,aw,I U 0,av,av] 135;obtain⟨x0,x1,x2,x3,x4,x5,x6,x7,x8⟩:=Rg BX;obtain⟨HRX,HD⟩:=eN BX (h.fp HB);have DW:=H (show Calls prog 56 #[ptr p] V0 (λe w'=>e= .returned (.bool z)/\V0=w') from by have:=nj HD;rwa[hdn] at this);have FL:=λW (hW:Bl V0 W)=>PV (HD.fp hW) hB;rw[hnm] at FL;replace FL:=H FL;obtain⟨LY,TD⟩:=eN (λW v (h:SgM.pW W v [SgM.fS ⟨114,0⟩])=>aac h) (λW (q c1 c2:Nat) A2 (hW:Bl V0 W) (q0:W.cell? ⟨q,0,E⟩=G (I U 114)) (q1:W.cell? ⟨q,1,E⟩=G av)=>Yg (c1:=c1) (c2:=c2) (A2:=A2) (HD.fp hW) q0 q1 ⟨dc,dc⟩ om hz);have RP:=λW (q c1 c2:Nat) A2 (hW:Bl V0 W) (q0:W.cell? ⟨q,0,E⟩=G (I U 114)) (q1:W.cell? ⟨q,1,E⟩=G av)=>Sz (c1:=c1) (c2:=c2) (A2:=A2) q0 q1 (HD.fp hW) hB hr ⟨dc,dc⟩ l x hw1 hw2 hrun hl hsz hxo hxf hO (hOw.ca (HB.ca hW)) hOF;rw[<-hS'] at RP;replace RP:=H RP;obtain⟨NX,NM,NM0⟩:=gi (λW (q c1 c2:Nat) A2 (h:oy W (Z (G ⟨q,0,E⟩) 1 c1) [⟨114,0⟩])=>YK (A2:=A2) (c2:=c2) h) (λW=>(show aai 100 #[.agg #[I U 114,I J 1]] W (C (SgM.fS ⟨114,1⟩)) from SgM.ji ⟨114,1⟩ W ⟨dc,dc⟩)) (λW=>(show aai 100 #[.agg #[I U 114,av]] W (C (SgM.fS ⟨114,0⟩)) from SgM.ji ⟨114,0⟩ W ⟨dc,dc⟩));have SZ:=λW (hD:eF W p b S')=>Ds.tM hD (n:=SgM.fS ⟨114,0⟩) kQ;rw[hL'] at SZ;have CR:=λW (hD:eF W p b S')=>Ds.ox hD hB' (n:=SgM.fS ⟨114,1⟩) kQ;unfold Ds.jE at CR;rw[hC] at CR;replace CR:=H CR;generalize (px (gG S.L (SgM.fS ⟨114,0⟩))).size=zz at*;generalize (gG S.L (SgM.fS ⟨114,0⟩)).isSome=zb at*;replace SZ:=H SZ;generalize (jY S' (SgM.fS ⟨114,1⟩)).1=S8 at*;generalize SgM.fS ⟨114,0⟩=n0 at*;generalize SgM.fS ⟨114,1⟩=n1 at*;generalize l.length=m at*;have i0:((zz:Int)==0)=z:=by rw[aX];omega
 clear BX x0 x1 x2 x3 x4 x5 x6 x7 x8 h hB hr hnm hdn hz hne hs hw1 hw2 hrun hl hsz hxo hxf hwn hS' hC hO hOw hOF hB' hL'
 go_enter func61,ntmps61
 go_upto_region 1 with fail
 rw[<-hV0,<-hX];clear hV0 hX
 go_upto_region 3 with(go_at_call 56;refine QS DW ?_)
 go_upto_region 4 with(first | (go_at_call 60;refine aaj (FL _ Bl.eH) λv1 w1 hs1 hb1=>?_) | (go_at_call 95;refine(LY _ _ hs1).mono ?_;rintro e w2 ⟨q,c1,A2,c2,rfl,hsg,hq0,hq1,hql,hb2⟩))
 obtain⟨HL2,HQL⟩:=eN (hb1.ca hb2) (aH hb1.size hql);clear hb1 hb2 hs1 hql;obtain⟨V2,Y,hV2,hY,BY,LV2⟩:=iC w2 #[I U 0,av,.bool z,Z (G ⟨q,0,E⟩) 1 c1,Z A2 0 c2] 179;rw[<-hV2,<-hY];clear hV2;replace hY:=H hY;obtain⟨y0,y1,y2,y3,y4⟩:=wY BY;obtain⟨HY,HL,HSG⟩:=gi BY (HL2.ca LV2) (oy.below hsg LV2);have Q0:=LV2.ce hq0;have Q1:=LV2.ce hq1;have hb22:=br V2;clear BY hsg hq0 hq1
 go_upto_region 7 with(go_at_call 96;refine qx (TD _ _ _ _ _ HL Q0 Q1) λw3 hb3=>?_)
 have Q0':=hb3.ce Q0;have Q1':=hb3.ce Q1
 go_upto_region 8 with(go_at_call 97;refine(RP _ _ _ _ _ (HL.ca hb3) Q0' Q1').mono ?_;rintro e w4 ⟨vo,vu,vs,vt,ul,rfl,hr4,hd4,hk4⟩;obtain⟨⟨B1,m1,e1,rfl⟩,⟨B2,m2,e2,rfl⟩,⟨B3,m3,e3,rfl⟩,B4,m4,e4,rfl⟩:=hr4.nr)
 have hpx:=HPB.out;have hxw:=HXw.out;have hyw:=hY.out;have hls:=HL2.size;have hsv:=SV.out;have hql:=HQL.out;obtain⟨HYn,HXn⟩:=eN (show Y∉[p,b] by simp only[aE,aO,aQ,bN];omega) (show X∉[p,b] by simp only[aE,aO,aQ,bN];omega);have hqn:q∉[p,b]:=by simp only[aE,aO,aQ,bN];omega
 have HK4:=H ((KF.of hb3).ca hk4);obtain⟨HY4,HX4⟩:=eN (HK4.hp HY HYn) (HK4.hp (HL.bl HRX) HXn);have P0:=hk4.ce Q0' hqn;have P1:=hk4.ce Q1' hqn;have HSG4:oy w4 (Z (G ⟨q,0,E⟩) 1 c1) [⟨114,0⟩]:=⟨_,_,D,λ_=>⟨q,0,D,World.block_lt_of_cell? w4 _ P0,λk hk=>by
  obtain rfl:k=0:=by simpa using hk
  exact⟨by simpa using P0,by simpa using P1⟩⟩⟩
 obtain⟨HS4,HD4,HR4⟩:=gi HSG4 hd4 hr4;clear Q0 Q1 Q0' Q1' hr4 hd4 hk4 hb3 HSG4 y0 y1 y2 y3 y4 hpx hxw hyw hls hsv hql hqn;obtain⟨V4,ag,hV4,hZ,BZ,LV4⟩:=iC w4 #[I J x.now,I J x.fb,Z B1 m1 e1,Z B2 m2 e2,Z B3 m3 e3,Z B4 m4 e4,I U 0,av,I J (m:Nat)] 135;rw[<-hV4,<-hZ];clear hV4;replace hZ:=H hZ;obtain⟨z0,z1,z2,z3,z4,z5,z6,z7,z8⟩:=Rg BZ;obtain⟨HZ4,S4'⟩:=eN BZ (oy.below HS4 LV4);have R0:=LV4.ce P0;have R1:=LV4.ce P1;clear BZ z0 z1 z2 z3 z4 z5 z6 z7 z8 P0 P1;obtain⟨y0,y1,y2,y3,y4⟩:=Bk.f5 (LV4.bl HY4)
 go_upto_region 11 with(go_at_call 98;refine qx (NX _ _ _ _ _ S4') λw5 hb5=>?_;have HZ5:=H (hb5.bl HZ4);have zf:=λj=>Bk.fr HZ5 j;obtain⟨z0,z1,z2,z3,z4,z5,z6,z7,z8⟩:=Bk.f9 HZ5)
 have K6:Bk ((w5.setCell ⟨ag,6,E⟩ (I U 114)).setCell ⟨ag,7,E⟩ (I J 1)) ag 135 #[I J x.now,I J x.fb,Z B1 m1 e1,Z B2 m2 e2,Z B3 m3 e3,Z B4 m4 e4,I U 114,I J 1,I J (m:Nat)]:=Bk.put (Bk.put HZ5 6 (I U 114)) 7 (I J 1);have hZle:w4.heap.size<=ag:=by rw[hZ.out];exact aB _
 have L6:=((LV4.ca hb5).st (p:=⟨ag,6,E⟩) hZle (I U 114)).st (p:=⟨ag,7,E⟩) hZle (I J 1);clear y0 y1 y2 y3 y4 z0 z1 z2 z3 z4 z5 z6 z7 z8 zf hb5 R0 R1;generalize (w5.setCell ⟨ag,6,E⟩ (I U 114)).setCell ⟨ag,7,E⟩ (I J 1)=W6 at*;obtain⟨y0,y1,y2,y3,y4⟩:=Bk.f5 (L6.bl HY4);obtain⟨z0,z1,z2,z3,z4,z5,z6,z7,z8⟩:=Bk.f9 K6;obtain⟨Aq,cq,eq1,hcq⟩:=HS4.out;injection eq1 with eq1 eq2 eq3
 obtain⟨gq,oq,eq4,_,hcc⟩:=hcq sm;rw[eq4] at eq1;injection eq1 with eq1
 injection eq1 with eq5 eq6
 subst eq5;subst eq6;have R0:W6.cell? ⟨q,0,E⟩=G (I U 114):=L6.ce (by have:=(hcc 0 sm).1;simpa using this);have R1:W6.cell? ⟨q,1,E⟩=G av:=L6.ce (by have:=(hcc 0 sm).2;simpa using this);obtain⟨HK6,HL6,HD6⟩:=gi K6 L6 (HD4.fp L6);clear K6 L6 eq2 eq3 eq4 hcq hcc hZle
 go_upto_region 17 with(first | (go_at_call 100;refine qx (NM0 W6) λw7 hb7=>?_) | (go_at_call 99;refine qx (SZ _ (HD6.fp hb7)) λw8 hb8=>?_))
 have HL8:=H (hb7.ca hb8);have K8:=HL8.bl HK6;obtain⟨s0,s1,s2,s3,s4,s5,s6,s7,s8⟩:=Bk.f9 K8;have HK8:=H K8;clear y0 y1 y2 y3 y4 z0 z1 z2 z3 z4 z5 z6 z7 z8 R0 R1 hb7 hb8 K8
 go_upto_region 18 with(first | (go_at_call 100;refine qx (NM w8) λw9 hb9=>?_) | (go_at_call 101;refine(CR _ (HD6.fp (HL8.ca hb9))).mono ?_;rintro e w10 ⟨rfl,hd10,hk10⟩))
 have hZn:ag∉[p,b]:=by
  have h1:=HPB.out;have h2:=hZ.out;have h3:=HK4.size;have h4:=(aa2.1 HY).1;have h5:=hY.out;have h6:=HL2.size;have h7:=SV.out;have h8:=HXw.out;exact abq
 have hk:KF [p,b] w8 w10:=(KF.of hb9).ca (KF.kp hk10 sm sm);have K10:=hk.hp HK8 hZn;have HX10:=H (hk.hp ((HL6.ca HL8).bl HX4) HXn);have hk4:KF [p,b] w4 w10:=(KF.of (HL6.ca HL8)).ca hk;have HKA:=H ((KF.of (HB.ca HL)).ca (HK4.ca hk4));have hno:∀ t,t≠109->∀ k∈[p,b],∀ cs,w8.heap[k]?≠G (.cells cs t):=by
  intro t ht k hk cs he;have hd8:=HD6.fp HL8;simp only[aE,aO,aQ] at hk;rcases hk with rfl | rfl
  ·have hb:w8.heap[k]?=G (.cells _ _ (0,0)):=hd8.fo;rw[he] at hb;injection hb with hb
   injection hb with _ hb
   exact ht hb
  ·obtain⟨es,clock,hb,_⟩:=hd8.own;rw[he] at hb;cases hb
 have R8:=HR4.bl (HL6.ca HL8);obtain⟨HR10,HD10⟩:=eN (show oD w10 0 _ _ _ _ x ul from⟨hk.qz R8.ho (hno _ dc),hk.qz R8.hu (hno _ dc),⟨R8.hl.1,λj h1 h2=>⟨(R8.hl.2 j h1 h2).1,hk.qz (R8.hl.2 j h1 h2).2 (hno _ dc)⟩⟩,hk.qz R8.hs (hno _ dc),hk.qz R8.ht (hno _ dc)⟩) hd10;obtain⟨z0,z1,z2,z3,z4,z5,z6,z7,z8⟩:=Bk.f9 K10;obtain⟨r0,r1,r2,r3,r4,r5,r6,r7,r8⟩:=Bk.f9 HX10;have rf:=λj=>Bk.fr HX10 j;clear K10 hk hk4 hno R8 s0 s1 s2 s3 s4 s5 s6 s7 s8 hb9 hk10 hd10 hZn
 go_wp2_with fail
 have h1:=HXw.out;have h2:=HPB.out;exact aa1 (eM (p:=2) (a:=3) D _ _ _ _ _ _ _ D (Bk.s9 HX10 _ _ _ _ _ _ _ _ _) underlying135 D uc) D ⟨_,_,_,_,ul,D,Ie HR10 HX10 _ _ _ _ _ _ _ _ _,dk9 HD10 om om _ _ _ _ _ _ _ _ _,HKA.s9 om _ _ _ _ _ _ _ _ _⟩
theorem YV{p:Nat}{S}{g}{x}(h:SX w B s p b S g x ev nt)(hD:Bk w aq 96 #[ptr s]){u:Nat}(hl:LD N ld g u S)(hN:N<=1000000)(hO:Gb O)(hOw:Bl O w)(hOF:∀ q∈[s,p,b],O.heap.size<=q):
 Calls prog 17 #[ptr aq,C (gR [kg])] w λr w'=>r= .returned (C oS)/\SX w' B s p b (mg S (SgM.fS g)).1 g x ev nt/\KF [s,p,b] w w':=by
 obtain⟨na,vo,vu,vs,vt,ul,h⟩:=h;refine ts (τ:=gR [kg]) (ar:=λw'=>SX w' B s p b (mg S (SgM.fS g)).1 g x ev nt) 0 0 z ⟨#[]⟩ [] qC dc dc hO hOw hOF (λW W' hb hq=>hq.bl hb) ?_;refine(O0.2.1 h hD hl.down 0 (gR [kg]) (λW hW=>acd W (hO.below (hOw.ca hW) (aB _))) (λW hW=>Xr (h.bl hW) (hW.bl hD) hl hN)).mono ?_;rintro e w' ⟨rfl,h1,h2⟩;exact⟨_,D,Rw.nil,h1,h2⟩
def qH:ay:=⟨#[98,111,98]⟩
def iA:ay:=⟨#[97,110,110]⟩
def FM:Ev:=⟨4,1,qH,iA,0,0⟩
def Hp:Ev:=⟨1,3,iA,⟨#[]⟩,2,1⟩
def Jy:Ev:=⟨3,7,iA,⟨#[]⟩,2,0⟩
def Mo:Ev:=⟨7,9,iA,⟨#[]⟩,0,0⟩
def XU:St:=⟨1,0,[],[],[⟨qH,iA,1,1099511627776⟩],[]⟩
def XT:St:=⟨3,0,[⟨2,iA,1,3⟩],[],[⟨qH,iA,1,1099511627776⟩],[]⟩
def Cy:St:=⟨7,0,[],[⟨iA,[⟨3,7,2,1⟩]⟩],[⟨qH,iA,1,1099511627776⟩],[]⟩
def qk:St:=⟨9,0,[],[],[],[⟨iA,9⟩]⟩
theorem aR1:fL FM=Q:=dk
theorem aR2:fL Hp=Q:=dk
theorem aR3:fL Jy=Q:=dk
theorem aR4:fL Mo=Q:=dk
theorem aS1:ft bf fL St.zero FM=G XU:=kr
theorem aS2:ft bf fL XU Hp=G XT:=kr
theorem aS3:ft bf fL XT Jy=G Cy:=kr
theorem aS4:ft bf fL Cy Mo=G qk:=kr
def wV:Sg:=⟨114,0⟩
def Cr:Sg:=⟨114,1⟩
def vX:ay:=SgM.fS wV
def Cq:ay:=SgM.fS Cr
def Vo:Dk:=(jY (kJ 4000) vX).1
def XG:Dk:=(lg Vo vX (nz FM)).1
def XF:Dk:=(lg XG vX (nz Hp)).1
def XW:Dk:=(lg XF vX (nz Jy)).1
def XE:Dk:=(mg XW vX).1
theorem aP1:gT Vo wV FM=(XG,wV):=kr
theorem aP2:gT XG wV Hp=(XF,wV):=kr
theorem aP3:gT XF wV Jy=(XW,wV):=kr
theorem aL3 {a c:Int}{b:Bool}(h:sf Cy qH iA 9 a b c):a=7/\b=Q/\c=0:=by
 rcases h with⟨h1,_⟩ | ⟨_,rfl,O,hO,rfl,rfl⟩
 ·exact absurd (show nF Cy ⟨qH,iA,0,1099511627776,9⟩=0 by decide+kernel) h1
 ·rw[show SS Cy iA 9=[⟨3,7,2,1⟩] by kernel_rfl] at hO;rw[List.perm_singleton.1 hO];exact⟨kr,kr,D⟩
theorem aL4 {a c:Int}{b:Bool}(h:sf qk qH iA 9 a b c):a=0/\b=z/\c=0:=by
 rcases h with⟨h1,_⟩ | ⟨_,rfl,O,hO,rfl,rfl⟩
 ·exact absurd (show nF qk ⟨qH,iA,0,1099511627776,9⟩=0 by decide+kernel) h1
 ·rw[show SS qk iA 9=[] by kernel_rfl] at hO;rw[List.perm_nil.1 hO];exact⟨kr,kr,D⟩
theorem Zh:oG 0 7 Q ⟨#[]⟩ []=⟨#[48,32,55,32,49,32,45]⟩:=kr
theorem Q5:oS=⟨#[48,32,48,32,48,32,45]⟩:=kr
theorem aQ1:kU FM=⟨#[112,117,116,32,52,32,49,32,98,111,98,32,97,110,110]⟩:=kr
theorem aQ2:kU Hp=⟨#[112,117,116,32,49,32,51,32,97,110,110,32,50,32,49]⟩:=kr
theorem aQ3:kU Jy=⟨#[112,117,116,32,51,32,55,32,97,110,110,32,50]⟩:=kr
theorem aQ4:gR [kg]=⟨#[115,121,110,99]⟩:=kr
theorem aQ5:gR [iz,qH,iA,eD 9]=⟨#[108,97,115,116,32,98,111,98,32,97,110,110,32,57]⟩:=kr
theorem aQ6:kU Mo=⟨#[112,117,116,32,55,32,57,32,97,110,110]⟩:=kr
theorem aQ7:gR [iB,iA]=⟨#[112,117,114,103,101,32,97,110,110]⟩:=kr
def aTx:ay:=mS [FM,Hp,Jy]
def Vn:Dk:=ur XE []
def Vm:Dk:={Vn with reads:=Vn.reads+MC Vn vX}
def Uz:Dk:=(jY Vm Cq).1
def Md:Dk:=(lg Uz Cq (nz Mo)).1
def UH:Dk:=(mg Md Cq).1
def Ho:ay:=SgM.fS ⟨116,2⟩
def Uy:ay:=SgM.fS ⟨99,2⟩
def Ux:ay:=SgM.fS ⟨115,2⟩
def aFr:List (UInt8×ay):=[(109,gR [eD 9,eD 0]),(116,gR [iA,eD 9]),(122,gR [eD 2])]
def aTt:List ay:=aFr.map λf=>Bj f.1 f.2
def ZJ:ay:=⟨(aTt.flatMap λt=>t.data.toList).toArray⟩
def UG:Dk:=(jY UH Ho).1
def UF:Dk:=(lg UG Ho ZJ).1
def UE:Dk:=(mg UF Ho).1
def UB:Dk:=(Ag UE Ho Uy).1
def Me:Dk:=(jY UB Ux).1
def UA:Dk:=(zc Me vX).1
def ze:Dk:=(zc UA Cq).1
theorem aI1:Iv 1 Vo:=(Iv.new 4000).jY _
theorem aI4:Iv 4 XW:=((aI1.lg _ _).lg _ _).lg _ _
theorem aI5:Iv 5 XE:=aI4.mg _
theorem ZK:Iv 5 Vn:=aI5.Y6 _
theorem aW1:CJ Vn vX=0:=kr
theorem aW2:CI Vn vX=aTx:=kr
theorem aW3:MC Vn vX=2:=kr
theorem aI7:Iv 10 Vm:={ZK.mono (show 5<=10 by decide) with th:=by unfold Vm;have:=ZK.th;simp only;omega,xK:=by unfold Vm;have:=ZK.xK;rw[aW3];simp only;omega}
theorem aI8:Iv 11 Uz:=aI7.jY _
theorem aI9:Iv 12 Md:=aI8.lg _ _
theorem Zv:Iv 13 UH:=aI9.mg _
theorem Zu:Iv 14 UG:=Zv.jY _
theorem Zt:Iv 15 UF:=Zu.lg _ _
theorem Zs:Iv 16 UE:=Zt.mg _
theorem Zr:Iv 17 UB:=Zs.Ag _ _
theorem XD:Iv 18 Me:=Zr.jY _
theorem aaz:Iv 19 UA:=XD.zc _
theorem aK8:(jY Vm Cq).2=0:=kr
theorem aax:(jY UH Ho).2=0:=kr
theorem aaw:(lg UG Ho ZJ).2=0:=kr
theorem aav:(mg UF Ho).2=0:=kr
theorem aau:(Ag UE Ho Uy).2=0:=kr
theorem aat:(jY UB Ux).2=0:=kr
theorem aas:(zc Me vX).2=0:=kr
theorem aar:(zc UA Cq).2=0:=kr
theorem aF6:Vn.L.map (·.n)=[vX]:=kr
theorem aaB:Me.L.map (·.n)=[Uy,vX,Cq,Ux]:=kr
theorem aP4:gT Uz Cr Mo=(Md,Cr):=kr
theorem Sj (k0 n0:Int)(vs:Value)(A)(n c:Nat)(w:World):(Instr.field 179 (.agg #[I U k0,I J n0,.bool Q,vs,Z A n c]) 3).run prog w= .ok (Z A n c) w:=kr
theorem Sh (a n:Int)(w:World):(Instr.field 133 (.agg #[I U a,I J n]) 1).run prog w= .ok (I J n) w:=kr
theorem Sf (a b:Int)(vo vu vs:Value)(A)(n c:Nat)(w:World):(Instr.field 131 (.agg #[I J a,I J b,vo,vu,vs,Z A n c]) 5).run prog w= .ok (Z A n c) w:=kr
section
variable {w w':World}{K s p b:Nat}{S:Dk}{g:Sg}{x:St}{ev nt n:Int}{y:St}{f:ay}
theorem tB.bl (h:tB w K s p b S g x ev nt n y f)(hb:Bl w w'):tB w' K s p b S g x ev nt n y f:=
 let⟨vo,vu,vs,vt,ul,hk,hr⟩:=h.k;⟨h.sx.bl hb,vo,vu,vs,vt,ul,hb.bl hk,hr.bl hb⟩
theorem tB.kf {S'}{g'}{x'}{ev' nt':Int}(h:tB w K s p b S g x ev nt n y f)(hk:KF [s,p,b] w w')(hs:SX w' 0 s p b S' g' x' ev' nt'):tB w' K s p b S' g' x' ev' nt' n y f:=by
 have hn:=h.ne;obtain⟨⟨_,_,_,_,_,_,h1⟩,_,_,_,_,_,h2,h3⟩:=h;exact⟨hs,_,_,_,_,_,hk.hp h2 (by simp[hn.1,hn.2.1,hn.2.2]),h1.GV sm hk h3⟩
theorem X7 (h:tB w K s p b S g x ev nt n y f)(hB:Bd S)(hn:SgM.In64 n)(hy:pY 60 y)(hc:(jY S (SgM.fS ⟨115,n⟩)).2=0):
 Calls prog 144 #[ptr K] w λe w'=>e= .returned av/\tB w' K s p b (jY S (SgM.fS ⟨115,n⟩)).1 ⟨115,n⟩ y ev nt n y f/\KF [s,p,b] w w':=by
 have NM0:=λW=>(show aai 100 #[.agg #[I U 115,I J n]] W (C (SgM.fS ⟨115,n⟩)) from SgM.ji ⟨115,n⟩ W hn);have CR0:=λW (hD:eF W p b S)=>Ds.ox hD hB (n:=SgM.fS ⟨115,n⟩) kQ;unfold Ds.jE at CR0;rw[hc] at CR0;have MV0:=λW v (hs:SX W 0 s p b (jY S (SgM.fS ⟨115,n⟩)).1 g x ev nt) (hv:iW W 0 v y)=>OQ (n:=n) hs v hv hy;generalize (jY S (SgM.fS ⟨115,n⟩)).1=S' at*;generalize SgM.fS ⟨115,n⟩=ns at*;have hne:=h.ne;have HW:=H h;obtain⟨_,vo,vu,vs,vt,ul,hk,hr⟩:=h;obtain⟨⟨A1,q1,e1,rfl⟩,⟨A2,q2,e2,rfl⟩,⟨A3,q3,e3,rfl⟩,A4,q4,e4,rfl⟩:=hr.nr;have k2:=hk.ce 2;obtain⟨HKB,HRR,HKn,MV1⟩:=kB hk hr (show K∉[p,b]/\K∉[s] by simp[hne.1,hne.2.1,hne.2.2]) MV0;clear hk hr hB hc hy hne hn
 go_enter func144,ntmps144
 go_upto_region 2 with fail
 obtain⟨V1,ag,hV1,hZ,BZ,LV1⟩:=iC w #[I U 115,I J n] 133;rw[<-hV1,<-hZ];clear hV1;replace hZ:=H hZ;obtain⟨z0,z1⟩:=ni BZ;obtain⟨HW1,HKB1⟩:=eN (HW.bl LV1) (LV1.bl HKB);have c1:=KF.all (F:=[p,b]) HKB1 HKn.out.1 1 D;have hZn:ag∉[p,b]:=by
  have h1:=HW.d.fo.lt;have h2:=HW.d.own.lt;have h3:=hZ.out;exact abq
 have Z0:=KF.all (F:=[p,b]) BZ hZn 0 D;have Z1:=KF.all (F:=[p,b]) BZ hZn 1 D;obtain⟨HZB,HZn,NM,CR⟩:=kB BZ hZn (λW (hW:Bl V1 W)=>(NM0 W).mono λe w' (k:_/\_)=>(⟨k.1,hW.ca k.2⟩:_/\Bl V1 w')) (λW (hW:Bl V1 W)=>CR0 W (HW1.d.fp hW));clear hZn;refine jI (T:=KF [p,b] V1) (S:=KF [p,b] V1) [] (KF.dr KF.eH) (KF.dr KF.eH) λhT0 hS0=>?_
 try dsimp only at hT0 hS0
 refine aaa [0,1,2] ?_;refine td 3 ?_;refine td 4 ?_;refine eK 5 λKQ hK=>?_;go_simp
 (go_at_call 100;refine qx (NM _ (Bl.dr Bl.eH)) λw2 hb2=>?_)
 have hT1:=KF.of (F:=[p,b]) hb2;have hS1:=hT1;refine kq hK ?_;refine eK 6 λKQ hK=>?_;go_simp
 (go_at_call 101;refine(CR _ hb2).mono ?_;rintro e w3 ⟨rfl,hd3,hk3⟩)
 have hT2:=hS1.ca (KF.kp hk3 sm sm);have hS2:=hT2;refine kq hK ?_;refine qd 7 ?_;refine iU ?_;have hL:=hS2;have HK3:=H (show KF [p,b] V1 w3 from hL);obtain⟨HW3,HKB3,HRR3⟩:=gi (HW1.dk HK3 hd3) (HK3.hp HKB1 HKn.out.1) (let⟨_,_,_,_,_,_,h1⟩:=HW1.sx;h1.GV sm HK3 (HRR.bl LV1));have hzs:ag∉[s]:=by
  obtain⟨⟨_,_,_,_,_,_,h1⟩,_⟩:=HW1.out;have:=h1.ne HZB dc dc;simp[this.1]
 obtain⟨d0,d1,d2,d3,d4,d5,d6,d7,d8,d9⟩:=KF.sG (F:=[s]) HKB3 HKn.out.2;have Y0:=KF.all (F:=[s]) (HK3.hp HZB HZn) hzs 0 D;have Y1:=KF.all (F:=[s]) (HK3.hp HZB HZn) hzs 1 D;have MV2:=λW (hW:Bl w3 W)=>MV1 W _ (HW3.sx.bl hW) ⟨_,_,_,_,ul,D,HRR3.bl hW⟩;unfold jd at MV2;have MV:=H MV2;clear hL hzs
 go_upto_region 5 with fail
 refine jI (T:=KF [s] w3) (S:=KF [s] w3) [] (KF.dr KF.eH) (KF.dr KF.eH) λhT0 hS0=>?_
 try dsimp only at hT0 hS0
 refine aaa [0,1,2] ?_;refine td 3 ?_;refine td 4 ?_;refine aaa [5,6,7] ?_;refine td 8 ?_;refine eK 9 λKQ hK=>?_;go_simp
 (go_at_call 217;refine(MV _ (Bl.dr Bl.eH)).mono ?_;rintro e w4 ⟨rfl,hs4,hk4⟩)
 have hT1:=hS0.ca hk4;have hS1:=hT1;refine kq hK ?_;refine iU ?_;have hL:=hS1;obtain⟨HK4,HS4⟩:=eN hk4 hs4;clear hL
 go_wp2_with fail
 go_ret;have hk:=KF.dr (KF.eH (F:=[s]) (w:=w3));refine⟨D,HW3.kf (KF.mono (hk.ca HK4) sm) HS4,(KF.of LV1).ca ((HK3.mono sm).ca (KF.mono (hk.ca HK4) sm))⟩
theorem X6 (h:tB w K s p b S g x ev nt n y f)(hB:Bd S)(F:List ay)(hF:S.L.map (·.n)=F)(N:List ay)(SS:Nat->Dk)(hS0:SS 0=S)(hN:N.length=2)(hNz:∀ t∈N,t.size<=maxLen)(hSS:∀ k (h:k<N.length),Bd (SS k)/\(zc (SS k) N[k]).2=0/\(zc (SS k) N[k]).1=SS (k+1))
 (hly:∀ W v,SgM.pW W v F->Calls prog 95 #[v] W λe w'=>∃ k0 n0 vs A c,e= .returned (.agg #[I U k0,I J n0,.bool Q,vs,Z A 2 c])/\Rw qc 9 1 w' W.heap.size (Z A 2 c) N/\Bl W w'):
 Calls prog 145 #[ptr K] w λe w'=>e= .returned av/\tB w' K s p b (SS 2) g x ev nt n y f/\KF [s,p,b] w w':=by
 have FL:=λW (hW:Bl w W)=>PV (h.d.fp hW) hB;rw[hF] at FL;obtain⟨FI,LY⟩:=eN (FL w Bl.eH) hly;have hne:=h.ne;obtain⟨HW,HPB,HDD⟩:=gi h (aJ h.d.fo.lt h.d.own.lt) (hS0▸h.d:eF w p b (SS 0));obtain⟨_,vo,vu,vs,vt,ul,hk,_⟩:=h;obtain⟨HKB,HKn⟩:=eN hk (show K∉[p,b] by simp[hne.2.1,hne.2.2]);have k1:=hk.ce 1;obtain⟨HN,HNZ,HSS⟩:=gi hN hNz hSS;clear hk hB hF hN hNz hSS hly hne;have fl3:=Sj
 go_enter func145,ntmps145
 go_upto_region 2 with(first | (go_at_call 60;refine aaj FI λv1 w1 hs1 hb1=>?_) | (go_at_call 95;refine(LY _ _ hs1).mono ?_;rintro e w2 ⟨k0,n0,vs0,A,c,rfl,hr2,hb2⟩))
 obtain⟨HB2,HR2,HB1⟩:=gi (hb1.ca hb2) hr2 hb1.size
 go_wp2_with fail
 go_loopw [14] (λi wr=>∃ k:Nat,k<=2/\i= I J k/\KF [p,b] w2 wr/\eF wr p b (SS k)) (λi _=>2 - (intOf i).toNat)
 case atStart=>exact⟨0,om,D,KF.eH,HDD.fp HB2⟩
 case round=>
  obtain⟨k,hk,rfl,hkf,hd⟩:=hrel;obtain⟨HKF,HD⟩:=eN hkf hd;by_cases hlt:k<2
  ·have hk':k<N.length:=by rw[HN.out];exact hlt
   obtain⟨q,rfl,hq,_,c0⟩:=HR2.Js (f:=qc) (c0:=λx=>C x) (λ_=>rfl) k hk';have hqn:q∉[p,b]:=by
    have h1:=HPB.out;have h2:=HB1.out;exact abq
   have e0:=hkf.ce (c0 w2 Bl.eH) hqn;have m1:=Bk.ce (hkf.hp (HB2.bl HKB) HKn) 1;obtain⟨hb,hz,hs⟩:=HSS k hk';have DL:=Ds.GJ.2 hd hb (n:=N[k]) (HNZ _ (aV hk'));unfold Ds.jE at DL;rw[hz,hs] at DL;replace DL:=H DL;generalize N[k]=nk at*;have i1:(k:Int)<(2:Int):=om;have i2:(0:Int)<=(k:Int):=om;clear hkf hd hqn hz hs
   go_wp2_with (go_at_call 157;refine DL.mono ?_;rintro e w4 ⟨rfl,hd4,hk4⟩;obtain⟨HD4,HK4⟩:=eN hd4 hk4;clear hd4 hk4)
   exact⟨⟨k+1,om,eB,HKF.ca (KF.kp HK4 sm sm),HD4⟩,eE⟩
  ·obtain rfl:k=2:=om;clear hkf hd
   go_wp2_with fail
   go_ret;exact⟨D,(HW.bl HB2).dk HKF HD,(KF.of HB2).ca (HKF.mono sm)⟩
end
theorem aao:SgM.sw wV=Q:=dk
theorem aan:SgM.sw Cr=Q:=dk
theorem Zp:LD 1 4000 wV 0 Vo:=ld0 4000
theorem Zo:LD 2 4000 wV (0+(nz FM).size) XG:=(GM Zp (nz FM) dk).2
theorem Zn:LD 3 4000 wV (0+(nz FM).size+(nz Hp).size) XF:=(GM Zo (nz Hp) dk).2
theorem Zm:LD 4 4000 wV (0+(nz FM).size+(nz Hp).size+(nz Jy).size) XW:=(GM Zn (nz Jy) dk).2
theorem Zl:LD 5 4000 wV (0+(nz FM).size+(nz Hp).size+(nz Jy).size) XE:=(Tz Zm).2
theorem Zq:Vm.L=XE.L:=kr
theorem aaq:LD 10 4000 wV 200 Vm:=⟨aI7,kr,kr,kr,by rw[Zq];exact Zl.has,by rw[Zq];exact Zl.no,aao,dk⟩
theorem Zk:LD 11 4000 Cr 200 Uz:=(WX aaq aan dc).2
theorem aap:LD 12 4000 Cr (200+(nz Mo).size) Md:=(GM Zk (nz Mo) dk).2
theorem Fw:pY 60 qk:=⟨dc,dc,dc,dc,by intro y hy;cases hy⟩
theorem Vl:pY 60 Cy:=⟨dc,dc,dc,dc,by intro y hy;simp only[Cy,bP] at hy;subst hy;decide⟩
theorem Zg (W)(v)(h:SgM.pW W v [Uy,vX,Cq,Ux]):Calls prog 95 #[v] W λe w'=>∃ k0 n0 vs A c,e= .returned (.agg #[I U k0,I J n0,.bool Q,vs,Z A 2 c])/\Rw qc 9 1 w' W.heap.size (Z A 2 c) [vX,Cq]/\Bl W w':=by
 refine(SgM.Bv h dc).mono ?_;rintro e w' ⟨vs,vt,rfl,h1,h2,hb⟩;have e0:xy (uq (qj [Uy,vX,Cq,Ux]))=G ⟨99,2⟩:=kr;rw[e0] at h2 ⊢;have et:oA (uq (qj [Uy,vX,Cq,Ux])) (G ⟨99,2⟩)=[vX.data.toList,Cq.data.toList]:=kr;have e1:tK ((oA (uq (qj [Uy,vX,Cq,Ux])) (G ⟨99,2⟩)).mergeSort SgM.leB)=[vX,Cq].flatMap qc:=by
  rw[et,List.mergeSort_of_pairwise dk]
  kernel_rfl
 have e2:(oA (uq (qj [Uy,vX,Cq,Ux])) (G ⟨99,2⟩)).length=[vX,Cq].length:=kr;rw[e1,e2] at h2;obtain⟨A,c,rfl,_,_⟩:=Rw.form (f:=qc) (L:=[vX,Cq]) h2;exact⟨_,_,vs,A,c,D,h2,hb⟩
theorem Zf (W)(vo vu vs vt)(ul)(hg:Gb W)(h:oD W 0 vo vu vs vt qk ul):aai 215 #[jd qk vo vu vs vt] W (C ZJ):=by
 refine VN aFr aTt D dc dk dk ?_ qk vo vu vs vt W (λW2 hW=>TZ 9 0 ⟨iA,9⟩ (jd qk vo vu vs vt) 0 W2 ⟨vo,vu,vs,vt,ul,D,h.bl hW⟩ dc dc dc dk (hg.below hW (aB _))) h.ho.fR h.hu.fR h.hs.fR h.ht.fR;intro k hk hk' W2;have key:∀ (kk:UInt8) (s:ay),s.size<=100->DF kk s.data.toList=0->aai 211 #[.agg #[I U (kk.toNat:Nat),C s]] W2 (.tuple #[C (Bj kk s),av]):=λkk s hs h0=>by
  have:=DP kk s W2 om;unfold sd at this;rw[h0] at this;exact this
 have h3:k=0∨k=1∨k=2:=by have:aFr.length=3:=rfl;omega
 rcases h3 with rfl | rfl | rfl
 ·exact key 109 (gR [eD 9,eD 0]) dk dk
 ·exact key 116 (gR [iA,eD 9]) dk dk
 ·exact key 122 (gR [eD 2]) dk dk
def cD:Nat->Dk
 | 0=>Md | 1=>UH | 2=>UG | 3=>UF | 4=>UE | 5=>UB | 6=>Me | _=>ze
def cG (k:Nat):Sg:=if k<6 then Cr else⟨115,2⟩
def cF:Nat->FuncId
 | 0=>89 | 1=>140 | 2=>141 | 3=>142 | 4=>143 | 5=>144 | _=>145
def cT:Nat->Dk
 | 0=>Me | 1=>UA | _=>ze
def cC (s K:Nat)(k:Nat):Value:=if k=0 then ptr s else ptr K
theorem Nn(h:k<7):k=0∨k=1∨k=2∨k=3∨k=4∨k=5∨k=6:=om
theorem Xv{p:Nat}(hg:g∉[s,p,b])(hf:Bk w g 169 #[.func (.func (cF 0)) #[ptr s] #[],.func (.func (cF 1)) #[ptr K] #[],.func (.func (cF 2)) #[ptr K] #[],.func (.func (cF 3)) #[ptr K] #[],.func (.func (cF 4)) #[ptr K] #[],.func (.func (cF 5)) #[ptr K] #[],.func (.func (cF 6)) #[ptr K] #[]])(h:tB w K s p b Md Cr qk ev nt 2 qk Ho)(hO:Gb O)(hOw:Bl O w)(hOF:∀ q∈[s,p,b],O.heap.size<=q):
 Calls prog 139 #[Z (G ⟨g,0,E⟩) 7 c] w λe w'=>e= .returned av/\KF [s,p,b] w w'/\tB w' K s p b ze ⟨115,2⟩ qk ev nt 2 qk Ho:=by
 refine Vb.2 cF (cC s K) (λk W=>KF [s,p,b] w W/\tB W K s p b (cD k) (cG k) qk ev nt 2 qk Ho) dc ⟨KF.eH,h⟩ ?_ ?_ ?_
 ·intro k hk W hq;rcases Nn hk with rfl | rfl | rfl | rfl | rfl | rfl | rfl
  ·exact hq.1.ce (hf.ce 0) hg
  ·exact hq.1.ce (hf.ce 1) hg
  ·exact hq.1.ce (hf.ce 2) hg
  ·exact hq.1.ce (hf.ce 3) hg
  ·exact hq.1.ce (hf.ce 4) hg
  ·exact hq.1.ce (hf.ce 5) hg
  ·exact hq.1.ce (hf.ce 6) hg
 ·intro k hk W;rcases Nn hk with rfl | rfl | rfl | rfl | rfl | rfl | rfl
  ·exact enters_of func89 kr D _ W
  ·exact enters_of func140 kr D _ W
  ·exact enters_of func141 kr D _ W
  ·exact enters_of func142 kr D _ W
  ·exact enters_of func143 kr D _ W
  ·exact enters_of func144 kr D _ W
  ·exact enters_of func145 kr D _ W
 ·intro k hk W ⟨hkf,hw⟩;rcases Nn hk with rfl | rfl | rfl | rfl | rfl | rfl | rfl
  ·obtain⟨_,_,_,_,_,_,h1⟩:=hw.sx;refine(xq h1 aap dc).mono ?_;rintro e w' ⟨rfl,h2,h3⟩;exact⟨D,hkf.ca h3,hw.kf h3 ⟨_,_,_,_,_,_,h2⟩⟩
  ·refine(Va.1 hw (Zv.bd dc) kQ aax).mono ?_;exact jo
  ·refine(Vs ZJ hw (Zu.bd dc) kQ dk aaw (λW2 vo vu vs vt ul hW2 hr=>Zf W2 vo vu vs vt ul (hO.below ((hkf.yN hOw hOF).ca hW2) (aB _)) hr)).mono ?_;exact jo
  ·refine(Va.2 hw (Zt.bd dc) kQ aav).mono ?_;exact jo
  ·refine(Ya hw (Zs.bd dc) kQ ⟨dc,dc⟩ aau).mono ?_;exact jo
  ·refine(X7 hw (Zr.bd dc) ⟨dc,dc⟩ Fw aat).mono ?_;exact jo
  ·refine(X6 hw (XD.bd dc) [Uy,vX,Cq,Ux] aaB [vX,Cq] cT D D (by intro t ht;simp only[aE,aO,aQ] at ht;rcases ht with rfl | rfl<;>exact kQ) ?_ Zg).mono ?_
   ·intro k hk;have:k=0∨k=1:=by simp only[bj,b8] at hk;omega
    rcases this with rfl | rfl
    ·exact⟨XD.bd dc,aas,D⟩
    ·exact⟨aaz.bd dc,aar,D⟩
   ·exact jo
theorem Pk:(prog.info? 133).map (·.size)=G 2:=kr
section
variable {w:World}{s p b:Nat}{ev nt:Int}
theorem R7{S}{g}{x}{ul}(h:SA w B s p b S g x ev nt na vo vu vs vt ul):aai 137 #[ptr s] w (.agg #[I U (g.k.toNat:Nat),I J g.n]):=by
 generalize hgk:(g.k.toNat:Nat)=gk;generalize hgn:g.n=gn;obtain⟨Y,V,hY,hV,BY,HB,HYw,SV⟩:=gC w #[I U 0,av] 133;obtain⟨y0,y1⟩:=ni BY;have HY:=H BY;obtain⟨_,_,_,_,_,_,c6,c7,_,_,_,_⟩:=xv (h.bl HB).fo;rw[hgk] at c6;rw[hgn] at c7;have yf:=λj=>Bk.fr HY j;clear h hgk hgn;have hb0:=br V
 go_enter func137,ntmps137
 go_upto_region 1 with fail
 rw[<-hV,<-hY];clear hV hY
 go_wp2_with fail
 exact aa1 (eS (p:=2) D _ _ _ _ _ _ _ D (Bk.put (Bk.put HY 0 _) 1 _) underlying133 D Pk) D ⟨D,(HB.st (p:=⟨Y,0,E⟩) fD _).st (p:=⟨Y,1,E⟩) fD _⟩
theorem Qz (h:SX w 0 s p b Md Cr qk ev nt)(hO:Gb O)(hOw:Bl O w)(hOF:∀ q∈[s,p,b],O.heap.size<=q):
 Calls prog 90 #[ptr s] w λe w'=>e= .returned av/\SX w' 0 s p b ze ⟨115,2⟩ qk ev nt/\KF [s,p,b] w w':=by
 obtain⟨na,wo,wu,ws,wt,ul0,h⟩:=h;obtain⟨AT,HP,DI,ST⟩:=kB (show aai 137 #[ptr s] w (.agg #[I U 114,I J 1]) from R7 h) h (λW (hW:Bl w W)=>po (h.bl hW)) (λW (hW:Bl w W)=>so (h.bl hW) (uh Fw));obtain⟨PR,NM,CS,HLT⟩:=kB (λW v b (hv:iW W b v qk)=>(show Calls prog 138 #[v] W λe w'=>∃ v',e= .returned v'/\iW w' W.heap.size v' qk/\Bl W w' from Wm qk v b W hv Fw D)) (λW=>(show aai 100 #[.agg #[I U 116,I J 2]] W (C Ho) from SgM.ji ⟨116,2⟩ W ⟨dc,dc⟩)) (λ(W:World) (K g c:Nat) (hW:Bl w W) hg hf (hk:tB W K s p b Md Cr qk ev nt 2 qk Ho)=>Xv (c:=c) (g:=g) hg hf hk hO (hOw.ca hW) hOF) (show s<w.heap.size/\p<w.heap.size/\b<w.heap.size from⟨(aa2.1 h.fo).1,h.dk.fo.lt,h.dk.own.lt⟩);have e1:IntKind.i64.wrap (1+1)=2:=dc;generalize hx0:qk.now=nw at*;generalize hx1:qk.fb=hr at*;clear h hO hOw hOF;have fs1:=Sh
 go_enter func90,ntmps90
 go_upto_region 2 with(go_at_call 137;refine qx AT λw1 hb1=>?_)
 have HB1:=H hb1
 go_upto_region 3 with(first | (go_at_call 40;refine QS (DI _ HB1) ?_) | (go_at_call 85;refine aaj (ST _ HB1) λv3 w3 hv3 hb3=>?_) | (go_at_call 138;refine aaj (PR _ _ _ hv3) λv4 w4 hv4 hb4=>?_;obtain⟨vo,vu,vs,vt,ul,rfl,hr4⟩:=hv4;obtain⟨⟨B1,m1,f1,rfl⟩,⟨B2,m2,f2,rfl⟩,⟨B3,m3,f3,rfl⟩,B4,m4,f4,rfl⟩:=hr4.nr;unfold jd;rw[hx0,hx1]) | (go_at_call 100;refine qx (NM _) λw5 hb5=>?_))
 obtain⟨HR5,HL5⟩:=eN ((hr4.bl hb5).iD (aD _)) (HB1.ca (hb3.ca (hb4.ca hb5)));obtain⟨V7,K,hV7,hK,BK,LV7⟩:=iC w5 #[ptr s,ptr p,I J 2,I J nw,I J hr,Z B1 m1 f1,Z B2 m2 f2,Z B3 m3 f3,Z B4 m4 f4,C Ho] 241;rw[<-hV7,<-hK];clear hV7;replace hK:=H hK;obtain⟨k0,k1,k2,k3,k4,k5,k6,k7,k8,k9⟩:=ZN BK;have HL7:=H (HL5.ca LV7);obtain⟨HK7,HGN⟩:=eN (show tB V7 K s p b Md Cr qk ev nt 2 qk Ho from⟨⟨_,_,_,_,_,_,HP.bl HL7⟩,_,_,_,_,ul,(by rw[hx0,hx1];exact BK),HR5.bl LV7⟩) (show V7.heap.size∉[s,p,b] by have h1:=HLT.out;have h2:=HL7.size;simp only[aE,aO,aQ,bN];omega)
 go_wp2_with (go_at_call 139;refine(CS _ K _ _ (HL7.al _) HGN (eL _ _) (HK7.bl (gl _ _))).mono ?_;rintro e w9 ⟨rfl,hk9,hw9⟩;obtain⟨HK9,HW9⟩:=eN hk9 hw9;clear hk9 hw9)
 go_ret;exact⟨D,HW9.sx,(KF.of (HL7.al _)).ca HK9⟩
theorem Wl (h:SX w 0 s p b Md Cr qk ev nt)(hO:Gb O)(hOw:Bl O w)(hOF:∀ q∈[s,p,b],O.heap.size<=q):
 Calls prog 92 #[ptr s,C iA] w λe w'=>e= .returned av/\SX w' 0 s p b ze ⟨115,2⟩ qk ev nt/\KF [s,p,b] w w':=by
 have CO:=H (λW (hW:Bl w W)=>Qz (h.bl hW) hO (hOw.ca hW) hOF);obtain⟨na,wo,wu,ws,wt,ul0,h⟩:=h;have ST:=H (λW (hW:Bl w W)=>so (h.bl hW) (uh Fw));have HIX:=H (show decide (lH (λy:gb=>decide (y.u=iA)) [⟨iA,9⟩]≥0)=Q by decide+kernel);have CT:=H (λW (X b:Nat) v (hX:W.cell? ⟨X,0,E⟩=G (C iA)) (hr:Rw gb.cs 244 2 W b v [⟨iA,9⟩])=>Y7 (λy=>decide (y.u=iA)) Tryz.call147 W (nK (enc:=gb.cs) (p:=λy=>decide (y.u=iA)) (λW x h=>ptc iA W x h) hX).2 hr sm);obtain⟨X,V,hX,hV,BX,HB,HXw,SV⟩:=gC w #[C iA] 9;have x0:=BX.all 0 D;have X0:∀ W,Bl V W->W.cell? ⟨X,0,E⟩=G (C iA):=x0;have fs5:=Sf;clear h hO hOw hOF BX SV
 go_enter func92,ntmps92
 go_upto_region 1 with fail
 rw[<-hV,<-hX];clear hV hX
 go_upto_region 3 with(first | (go_at_call 85;refine aaj (ST _ HB) λv1 w1 hv1 hb1=>?_;obtain⟨vo,vu,vs,vt,ul,rfl,hr1⟩:=hv1;obtain⟨B1,m1,f1,rfl⟩:=hr1.ho.fR;obtain⟨B2,m2,f2,rfl⟩:=hr1.hu.fR;obtain⟨B3,m3,f3,rfl⟩:=hr1.hs.fR;obtain⟨B4,m4,f4,rfl⟩:=hr1.ht.fR;unfold jd) | (go_at_call 146;refine qx (CT _ X _ _ (X0 w1 hb1) hr1.ht) λw2 hb2=>?_;rw[HIX.out]))
 have HB2:=H (HB.ca (hb1.ca hb2));clear hb1 hb2 hr1 x0 X0 fs5
 go_wp2_with (go_at_call 90;refine(CO _ HB2).mono ?_;rintro e w3 ⟨rfl,hs3,hk3⟩;have HS3:=H hs3;have HK3:=H hk3;clear hs3 hk3)
 go_ret;exact⟨D,HS3,(KF.of HB2).ca HK3⟩
theorem Xq(h:SX w 0 s p b Md Cr qk ev nt)(hD:Bk w aq 96 #[ptr s])(hO:Gb O)(hOw:Bl O w)(hOF:∀ q∈[s,p,b],O.heap.size<=q):
 Calls prog 59 #[ptr aq,.agg #[I J 3,av,av,ax,ax,av,av,C iA,ax,ax,av,av,av,av,ax]] w λe w'=>e= .returned av/\SX w' 0 s p b ze ⟨115,2⟩ qk ev nt/\KF [s,p,b] w w':=by
 obtain⟨A,hA⟩:=fe w.heap.size;obtain⟨V0,hV0⟩:=fe (w.alloc (.cells #[I J 3,av,av,ax,ax,av,av,C iA,ax,ax,av,av,av,av,ax] 121));have BA:Bk V0 A 121 #[I J 3,av,av,ax,ax,av,av,C iA,ax,ax,av,av,av,av,ax]:=by rw[hV0];exact fh _ _ hA
 have HB:=H (show Bl w V0 by rw[hV0];exact gl _ _);obtain⟨PG,ST⟩:=eN (λW (hW:Bl V0 W)=>Wl (h.bl (HB.ca hW)) hO (hOw.ca (HB.ca hW)) hOF) (λW (hW:Bl V0 W)=>Hd (hW.bl (HB.bl hD)));obtain⟨na,wo,wu,ws,wt,ul0,h⟩:=h;have nA:=(h.bl HB).ne BA dc dc;have hAF:A∉[s,p,b]:=by simp[nA.1,nA.2.1,nA.2.2]
 obtain⟨a0,a1,a2,a3,a4,a5,a6,a7,a8,a9,sG,uB,a12,sQ,sP⟩:=KF.Ap (F:=[s,p,b]) BA hAF;have hb0:KF [s,p,b] V0 V0:=KF.eH;clear h hD hO hOw hOF nA hAF
 go_enter func59,ntmps59
 go_upto_region 1 with fail
 rw[<-hV0,<-hA];clear hV0 hA
 go_upto_region 8 with fail
 refine jI (T:=KF [s,p,b] V0) (S:=KF [s,p,b] V0) [] (KF.dr KF.eH) (KF.dr KF.eH) λhT0 hS0=>?_
 try dsimp only at hT0 hS0
 refine aaa [0,2] ?_;refine td 3 ?_;refine eK 1 λKQ hK=>?_;go_simp
 (go_at_call 91;refine QS (ST _ (Bl.dr Bl.eH)) ?_)
 have hT1:=hS0;have hS1:=hT1;refine kq hK ?_;refine eK 4 λKQ hK=>?_;go_simp
 (go_at_call 92;refine(PG _ (Bl.dr Bl.eH)).mono ?_;rintro e w9 ⟨rfl,hs9,hk9⟩)
 have hT2:=hS1.ca hk9;have hS2:=hT2;refine kq hK ?_;refine qd 5 ?_;refine iU ?_;have hL:=hS2;obtain⟨HK,HS⟩:=eN (show KF [s,p,b] V0 w9 from hL) hs9;clear hL
 go_wp2_with fail
 go_ret;exact⟨D,HS,(KF.of HB).ca HK⟩
theorem Xd(h:SX w 0 s p b Md Cr qk ev nt)(hD:Bk w aq 96 #[ptr s])(hO:Gb O)(hOw:Bl O w)(hOF:∀ q∈[s,p,b],O.heap.size<=q):
 Calls prog 17 #[ptr aq,C (gR [iB,iA])] w λr w'=>r= .returned (C oS)/\SX w' 0 s p b ze ⟨115,2⟩ qk ev nt/\KF [s,p,b] w w':=by
 have hq:=h;obtain⟨na,vo,vu,vs,vt,ul,h⟩:=h;refine ts (τ:=gR [iB,iA]) (ar:=λw'=>SX w' 0 s p b ze ⟨115,2⟩ qk ev nt) 0 0 z ⟨#[]⟩ [] qC dc dc hO hOw hOF (λW W' hb hq=>hq.bl hb) ?_;refine(O0.2.2 iA h hD kr 0 (gR [iB,iA]) (λW hW=>acb iA W dk (hO.below (hOw.ca hW) (aB _))) (λW hW=>Xq (hq.bl hW) (hW.bl hD) hO (hOw.ca hW) hOF)).mono ?_;rintro e w' ⟨rfl,h1,h2⟩;exact⟨_,D,Rw.nil,h1,h2⟩
end
theorem SA.aae{p:Nat}{S}{g}{x}{ul}{cs}(h:SA w B s p b S g x ev nt na vo vu vs vt ul)(hY:Bk w Y 96 cs)(i:Nat)(v):SA (w.setCell ⟨Y,i,E⟩ v) B s p b S g x ev nt na vo vu vs vt ul:=by
 exact qP
theorem VY{p:Nat}{S8:Dk}{x:St}{m:Int}(hpb:p<w.heap.size/\b<w.heap.size)
 (h:Calls prog 61 #[ptr p] w λe w'=>∃ vo vu vs vt ul,e= .returned (.tuple #[.agg #[I J x.now,I J x.fb,vo,vu,vs,vt,I U 114,I J 1,I J m],av])/\oD w' 0 vo vu vs vt x ul/\eF w' p b S8/\KF [p,b] w w'):
 Calls prog 42 #[ptr p] w λe w'=>∃ s,e= .returned (.tuple #[ptr s,av])/\SX w' 0 s p b S8 ⟨114,1⟩ x m 0/\KF [p,b] w w'/\w.heap.size<=s:=by
 obtain⟨HPW,OP⟩:=eN hpb h;clear h hpb
 go_enter func42,ntmps42
 go_upto_region 2 with(go_at_call 61;refine OP.mono ?_;rintro e w1 ⟨vo,vu,vs,vt,ul,rfl,hr1,hd1,hk1⟩;obtain⟨⟨B1,m1,e1,rfl⟩,⟨B2,m2,e2,rfl⟩,⟨B3,m3,e3,rfl⟩,B4,m4,e4,rfl⟩:=hr1.nr)
 obtain⟨HD1,HK1,HR1⟩:=gi hd1 hk1 hr1;obtain⟨V2,X,hV2,hX,BX,LV2⟩:=iC w1 #[I J x.now,I J x.fb,Z B1 m1 e1,Z B2 m2 e2,Z B3 m3 e3,Z B4 m4 e4,I U 114,I J 1,I J m] 135;rw[<-hV2,<-hX];clear hV2;replace hX:=H hX;obtain⟨x0,x1,x2,x3,x4,x5,x6,x7,x8⟩:=Rg BX;have hb22:=br V2
 go_wp2_with fail
 go_ret2
 have hz:=aH HK1.size LV2.size;have hp:=HPW.out;exact⟨V2.heap.size,D,⟨0,_,_,_,_,ul,⟨eL V2 _,(HD1.fp LV2).fp (gl _ _),(HR1.bl LV2).bl (gl _ _),om,om,aD _⟩⟩,(HK1.bl LV2).bl (gl _ _),hz⟩
theorem Xu{p:Nat}{S S8:Dk}{g}{x0 x:St}{m:Int}(h:SX w B s p b S g x0 ev nt)(hD:Bk w aq 96 #[ptr s])(hB:Bd S)(hnm:∀ f∈S.L,f.n.size<=maxLen)
 (hop:∀ W,eF W p b (ur S [])->KF [p,b] w W->Calls prog 42 #[ptr p] W λe w'=>∃ s2,e= .returned (.tuple #[ptr s2,av])/\SX w' 0 s2 p b S8 ⟨114,1⟩ x m 0/\KF [p,b] W w'/\W.heap.size<=s2):
 Calls prog 22 #[ptr aq,aw] w λe w'=>e= .returned av/\∃ s2,SX w' 0 s2 p b S8 ⟨114,1⟩ x m 0/\Bk w' aq 96 #[ptr s2]/\KF [aq,p,b] w w'/\w.heap.size<=s2:=by
 obtain⟨na,vo,vu,vs,vt,ul,h⟩:=h;have nD:=h.ne hD dc dc;have HDn:=H (show aq∉[p,b] by simp[nD.2.1,nD.2.2]);have d0:=hD.ce 0;have DI:=H (po h);have CR:=Ds.LM h.dk hB hnm (ks0:=[]) (kb:=0) (K0:=Z E 0 0) (Ds.kF.none_ w 0 E 0) (λhh=>absurd hh sm) sm;unfold Ds.Aw at CR;replace CR:=H CR;obtain⟨HP,HD,OP⟩:=gi h hD hop;clear h hD hB hnm hop nD
 go_enter func22,ntmps22
 go_upto_region 2 with(first | (go_at_call 40;refine QS DI ?_) | (go_at_call 41;refine CR.mono ?_;rintro e w2 ⟨rfl,hd2,hk2⟩))
 have hK2:KF [p,b] w w2:=KF.kp hk2 sm sm;obtain⟨HK2,HP2⟩:=eN hK2 (HP.YY hK2 hd2);have d2:=hK2.ce d0 HDn;obtain⟨DI2,OP2⟩:=eN (po HP2) (OP w2 hd2 hK2);clear hK2
 go_upto_region 5 with(first | (go_at_call 40;refine QS DI2 ?_) | (go_at_call 42;refine OP2.mono ?_;rintro e w4 ⟨s2,rfl,hs4,hk4,hz4⟩))
 obtain⟨HS4,HK4,HZ4⟩:=gi hs4 (HK2.ca hk4) (aH HK2.size hz4);have HD4:=H (HK4.hp HD HDn);have d4:=Bk.ce HD4 0;have df:=λj=>Bk.fr HD4 j
 go_wp2_with fail
 go_ret;obtain⟨na,vo,vu,vs,vt,ul,h4⟩:=HS4.out;exact⟨D,s2,⟨_,_,_,_,_,_,h4.aae HD4 0 _⟩,Bk.put HD4 0 _,(HK4.mono sm).st sm _,HZ4⟩
structure DA (w:World)(B aq s p b:Nat)(S:Dk)(g:Sg)(x:St)(ev nt:Int):Prop where
 d:Bk w aq 96 #[ptr s]
 sx:SX w B s p b S g x ev nt
section
variable {w w':World}{B aq s p b:Nat}{S:Dk}{g:Sg}{x:St}{ev nt:Int}
theorem DA.bl (h:DA w B aq s p b S g x ev nt)(hb:Bl w w'):DA w' B aq s p b S g x ev nt:=⟨hb.bl h.d,h.sx.bl hb⟩
theorem DA.G7 {row}(h:DA w B aq s p b S g x ev nt)(hw:Mh w row)(hg:w.grownBy w' row):DA w' B aq s p b S g x ev nt:=by
 refine⟨(hg.block aq (aa2.1 h.d).1 λe=>?_).trans h.d,h.sx.G7 hw hg⟩;exact rB
theorem DA.nD (h:DA w B aq s p b S g x ev nt):aq∉[s,p,b]:=by
 obtain⟨_,_,_,_,_,_,h1⟩:=h.sx;obtain⟨q1,q2,q3⟩:=h1.ne h.d dc dc;simp[q1,q2,q3]
theorem DA.no (h:DA w B aq s p b S g x ev nt):∀ k∈[s,p,b],∀ cs,w.heap[k]?≠G (.cells cs 9):=by
 obtain⟨_,_,_,_,_,_,h1⟩:=h.sx;exact h1.no (λk hk=>hk) dc dc
theorem DA.lt (h:DA w B aq s p b S g x ev nt):∀ q∈[s,p,b],q<w.heap.size:=by
 obtain⟨_,_,_,_,_,_,h1⟩:=h.sx;exact nZ
theorem DA.texts (h:DA w B aq s p b S g x ev nt)(q:Nat)(cs)(hq:Bk w q 9 cs):q∉[s,p,b]:=λhm=>h.no q hm cs hq
end
theorem aV1:ik 1 XU:=ik.zero.step dc dc aS1
theorem aV2:ik 2 XT:=aV1.step dc dc aS2
theorem aV3:ik 3 Cy:=aV2.step dc dc aS3
theorem aV4:ik 4 qk:=aV3.step dc dc aS4
def pD:Nat->Dk
 | 0=>Vo | 1=>XG | 2=>XF | 3=>XW | _=>XE
def pX:Nat->St
 | 0=>St.zero | 1=>XU | 2=>XT | _=>Cy
def pN:Nat->Int
 | 0=>0 | 1=>1 | 2=>2 | _=>3
theorem Ve(h:k<4):k=0∨k=1∨k=2∨k=3:=om
section
variable {w:World}{B aq s p b:Nat}
theorem XA (h:DA w B aq s p b Vo wV St.zero 0 0)(hO:Gb O)(hOw:Bl O w)(hOF:∀ q∈[s,p,b],O.heap.size<=q)(v)(vb:Nat)(hv:Rw qc 9 1 w vb v [kU FM,kU Hp,kU Jy,gR [kg]]):
 Calls prog 14 #[ptr aq,v] w λe w'=>∃ v',e= .returned v'/\Rw qc 9 1 w' 0 v' [oS,oS,oS,oS]/\DA w' B aq s p b XE wV Cy 0 3/\KF [s,p,b] w w':=by
 refine xQ (aq:=aq) (F:=[s,p,b]) [kU FM,kU Hp,kU Jy,gR [kg]] [oS,oS,oS,oS] v vb (λk W=>DA W B aq s p b (pD k) wV (pX k) 0 (pN k)) hv h.texts D dc h.lt h (λk W W' hb hq=>hq.bl hb) (λk W W' row hq hw hg=>hq.G7 hw hg) ?_;intro k hk hk' W hW hq;have put:=λ(e:Ev) (S S':Dk) (x x':St) (nt:Int) (N u n:Nat) (hq:DA W B aq s p b S wV x 0 nt) (hl:LD N 4000 wV u S) (hN:N<=100) (hnt:0<=nt/\nt<=100) (he:fL e=Q) (hst:ft bf fL x e=G x') (hI:ik n x) (hn:n<=60) (hr:(u:Int)+((nz e).size:Nat)<=4000) (hp:gT S wV e=(S',wV))=>
  ((yq hq.sx hq.d hl om dc ⟨hnt.1,om⟩ hO (hW.yN hOw hOF) hOF e he hst hI hn hr).mono λr w' ⟨h1,h2,h3⟩=>(⟨h1,⟨h3.hp hq.d hq.nD,by rw[hp] at h2;exact h2⟩,h3⟩:r=Ending.returned (C oS)/\DA w' B aq s p b S' wV x' 0 (nt+1)/\KF [s,p,b] W w'))
 rcases Ve hk with rfl | rfl | rfl | rfl
 ·exact put FM Vo XG St.zero XU 0 1 _ 0 hq Zp dc dc aR1 aS1 ik.zero dc dk aP1
 ·exact put Hp XG XF XU XT 1 2 _ 1 hq Zo dc dc aR2 aS2 aV1 dc dk aP2
 ·exact put Jy XF XW XT Cy 2 3 _ 2 hq Zn dc dc aR3 aS3 aV2 dc dk aP3
 ·refine(YV hq.sx hq.d Zm dc hO (hW.yN hOw hOF) hOF).mono ?_;rintro r w' ⟨rfl,h2,h3⟩;exact⟨D,⟨h3.hp hq.d hq.nD,h2⟩,h3⟩
def qD:Nat->Dk
 | 0=>Uz | 1=>Uz | 2=>Md | _=>ze
def qG:Nat->Sg
 | 0=>Cr | 1=>Cr | 2=>Cr | _=>⟨115,2⟩
def qX:Nat->St
 | 0=>Cy | 1=>Cy | _=>qk
def qN:Nat->Int
 | 0=>0 | 1=>0 | _=>1
theorem Xz (h:DA w 0 aq s p b Uz Cr Cy 3 0)(hO:Gb O)(hOw:Bl O w)(hOF:∀ q∈[s,p,b],O.heap.size<=q)(v)(vb:Nat)(hv:Rw qc 9 1 w vb v [gR [iz,qH,iA,eD 9],kU Mo,gR [iB,iA],gR [iz,qH,iA,eD 9]]):
 Calls prog 14 #[ptr aq,v] w λe w'=>∃ v',e= .returned v'/\Rw qc 9 1 w' 0 v' [oG 0 7 Q ⟨#[]⟩ [],oS,oS,oS]/\DA w' 0 aq s p b ze ⟨115,2⟩ qk 3 1/\KF [s,p,b] w w':=by
 refine xQ (aq:=aq) (F:=[s,p,b]) [gR [iz,qH,iA,eD 9],kU Mo,gR [iB,iA],gR [iz,qH,iA,eD 9]] [oG 0 7 Q ⟨#[]⟩ [],oS,oS,oS] v vb (λk W=>DA W 0 aq s p b (qD k) (qG k) (qX k) 3 (qN k)) hv h.texts D dc h.lt h (λk W W' hb hq=>hq.bl hb) (λk W W' row hq hw hg=>hq.G7 hw hg) ?_;intro k hk hk' W hW hq;have hGW:Gb W:=hO.below (hW.yN hOw hOF) (aB _);rcases Ve hk with rfl | rfl | rfl | rfl
 ·refine(I8 hq.sx hq.d kr Vl aV3.u hGW qH iA 9 dk dk dc).mono ?_;rintro r w' ⟨c,a,bb,rfl,hl,hb⟩;obtain⟨rfl,rfl,rfl⟩:=aL3 hl;exact⟨D,hq.bl hb,KF.of hb⟩
 ·refine(yq hq.sx hq.d Zk dc dc dc hO (hW.yN hOw hOF) hOF Mo aR4 aS4 aV3 dc dk).mono ?_;rintro r w' ⟨rfl,h2,h3⟩;rw[show gT (qD 1) (qG 1) Mo=_ from aP4] at h2;exact⟨D,⟨h3.hp hq.d hq.nD,h2⟩,h3⟩
 ·refine(Xd hq.sx hq.d hO (hW.yN hOw hOF) hOF).mono ?_;rintro r w' ⟨rfl,h2,h3⟩;exact⟨D,⟨h3.hp hq.d hq.nD,h2⟩,h3⟩
 ·refine(I8 hq.sx hq.d kr Fw aV4.u hGW qH iA 9 dk dk dc).mono ?_;rintro r w' ⟨c,a,bb,rfl,hl,hb⟩;obtain⟨rfl,rfl,rfl⟩:=aL4 hl;exact⟨D,hq.bl hb,KF.of hb⟩
theorem XC (h:DA w B aq s p b XE wV Cy 0 3)(hO:Gb O)(hOw:Bl O w)(hOF:∀ q∈[s,p,b],O.heap.size<=q):
 Calls prog 22 #[ptr aq,aw] w λe w'=>e= .returned av/\∃ s2,DA w' 0 aq s2 p b Uz Cr Cy 3 0/\KF [aq,p,b] w w'/\w.heap.size<=s2:=by
 have hlt:=h.lt;refine(Xu (S8:=Uz) (x:=Cy) (m:=3) h.sx h.d (aI5.bd dc) aI5.names λW hd hk=>?_).mono ?_
 ·refine VY ⟨bK (hlt p sm) hk.size,bK (hlt b sm) hk.size⟩ ?_;have hOF2:∀ q∈[p,b],O.heap.size<=q:=λq hq=>hOF q (by simp only[aE] at hq ⊢;exact .inr hq);exact WM hd (ZK.bd dc) dk aF6 kr [FM,Hp,Jy] Cy dk dk dk aW1 aW2 kr dc dk D Vl dk Vm D aK8 hO (hk.yN hOw hOF2) hOF2
 ·rintro e w' ⟨rfl,s2,h1,h2,h3,h4⟩;exact⟨D,s2,⟨h2,h1⟩,h3,h4⟩
end
theorem Zj:(#[C ⟨#[112,117,116,32,52,32,49,32,98,111,98,32,97,110,110]⟩,C ⟨#[112,117,116,32,49,32,51,32,97,110,110,32,50,32,49]⟩,C ⟨#[112,117,116,32,51,32,55,32,97,110,110,32,50]⟩,C ⟨#[115,121,110,99]⟩]:Array Value)=([kU FM,kU Hp,kU Jy,gR [kg]].map Value.string).toArray:=by
 simp only[bC,dP,aQ1,aQ2,aQ3,aQ4]
theorem Zi:(#[C ⟨#[108,97,115,116,32,98,111,98,32,97,110,110,32,57]⟩,C ⟨#[112,117,116,32,55,32,57,32,97,110,110]⟩,C ⟨#[112,117,114,103,101,32,97,110,110]⟩,C ⟨#[108,97,115,116,32,98,111,98,32,97,110,110,32,57]⟩]:Array Value)=([gR [iz,qH,iA,eD 9],kU Mo,gR [iB,iA],gR [iz,qH,iA,eD 9]].map Value.string).toArray:=by
 simp only[bC,dP,aQ5,aQ6,aQ7]
theorem Mb (w)(hg:Gb w):aai 5 #[] w (.bool Q):=by
 obtain⟨NW,HGB,NR⟩:=gi (YM 4000 w) hg (λW=>(show Calls prog 23 #[C ⟨#[97,110,110]⟩] W λe w'=>e= .returned (.bool Q)/\W=w' from by
  have h:=kj ⟨#[97,110,110]⟩ W dc;rw[show gD ⟨#[97,110,110]⟩=Q by decide+kernel] at h;exact h))
 clear hg
 go_enter func5,ntmps5
 go_upto_region 4 with(go_at_call 13;refine NW.mono ?_;rintro e w1 ⟨aq,s,p,b,rfl,hD,hs,hb1,hs1,hp1,hbb1,hD1⟩)
 obtain⟨HA1,HB1,HF,HD1⟩:=kB (show DA w1 (s+1) aq s p b Vo wV St.zero 0 0 from⟨hD,hs⟩) hb1 (show ∀ q∈[s,p,b],w.heap.size<=q by intro q hq;simp only[aE,aO,aQ] at hq;rcases hq with rfl | rfl | rfl<;>assumption) hD1;clear hD hs hbb1 hD1;obtain⟨V1,hV1,HV1⟩:=nh (w1.alloc (.cells #[C ⟨#[112,117,116,32,52,32,49,32,98,111,98,32,97,110,110]⟩,C ⟨#[112,117,116,32,49,32,51,32,97,110,110,32,50,32,49]⟩,C ⟨#[112,117,116,32,51,32,55,32,97,110,110,32,50]⟩,C ⟨#[115,121,110,99]⟩] 9));have LV1:=H (show Bl w1 V1 by rw[hV1];exact gl _ _);have P1:=XA (HA1.bl LV1) HGB (HB1.ca LV1) HF (Z (G ⟨w1.heap.size,0,E⟩) 4 4) 0 (ki _ (by rw[hV1];exact eL _ _) Zj D dc (aD _));rw[hV1] at P1;replace P1:=H P1;clear hV1
 go_upto_region 5 with(go_at_call 14;refine P1.mono ?_;rintro e w2 ⟨v2,rfl,hr2,ha2,hk2⟩)
 rw[<-HV1.out] at hk2;rw[Q5] at hr2;obtain⟨A2,c2,rfl,_,_⟩:=hr2.form;simp only[bj,b8,aZ] at hr2 ⊢;obtain⟨HK2,HW2,HA2,HR2⟩:=kB ((KF.of LV1).ca hk2) (hk2.yN (HB1.ca LV1) HF) ha2 hr2;have CR:=H (XC ha2 HGB HW2 HF)
 go_upto_region 6 with(go_at_call 22;refine CR.mono ?_;rintro e w3 ⟨rfl,s2,ha3,hk3,hz3⟩)
 have HF3:=H (show ∀ q∈[s2,p,b],w.heap.size<=q by
  intro q hq;have h1:=HF p sm;have h2:=HF b sm;have h3:=HW2.size;simp only[aE,aO,aQ] at hq;rcases hq with rfl | rfl | rfl<;>omega)
 have hFD:∀ q∈[aq,p,b],w.heap.size<=q:=by
  intro q hq;have h1:=HF p sm;have h2:=HF b sm;have h3:=HD1.out;simp only[aE,aO,aQ] at hq;rcases hq with rfl | rfl | rfl<;>omega
 obtain⟨HW3,HR3⟩:=eN (hk3.yN HW2 hFD) (show Rw qc 9 1 w3 0 _ _ from hk3.qz HR2 (λk hk cs he=>by
  simp only[aE,aO,aQ] at hk;rcases hk with rfl | rfl | rfl
  ·have h4:w2.heap[k]?=G (.cells _ _):=HA2.d;rw[h4] at he;injection he with he
   injection he with _ he
   exact absurd he dc
  ·exact HA2.no k sm cs he
  ·exact HA2.no k sm cs he))
 have HA3:=H ha3;clear hFD;obtain⟨V3,hV3,HV3⟩:=nh (w3.alloc (.cells #[C ⟨#[108,97,115,116,32,98,111,98,32,97,110,110,32,57]⟩,C ⟨#[112,117,116,32,55,32,57,32,97,110,110]⟩,C ⟨#[112,117,114,103,101,32,97,110,110]⟩,C ⟨#[108,97,115,116,32,98,111,98,32,97,110,110,32,57]⟩] 9));have LV3:=H (show Bl w3 V3 by rw[hV3];exact gl _ _);obtain⟨HA3',HR3'⟩:=eN (HA3.bl LV3) (HR3.bl LV3);have P2:=Xz HA3' HGB (HW3.ca LV3) HF3 (Z (G ⟨w3.heap.size,0,E⟩) 4 4) 0 (ki _ (by rw[hV3];exact eL _ _) Zi D dc (aD _));rw[hV3] at P2;replace P2:=H P2;clear hV3
 go_upto_region 7 with(go_at_call 14;refine P2.mono ?_;rintro e w5 ⟨v5,rfl,hr5,ha5,hk5⟩)
 rw[<-HV3.out] at hk5;rw[Q5,Zh] at hr5;obtain⟨A5,c5,rfl,_,_⟩:=hr5.form;simp only[bj,b8,aZ] at hr5 ⊢;have HW5:=H (hk5.yN (HW3.ca LV3) HF3);have hr2:Rw qc 9 1 w5 0 (Z A2 4 c2) _:=hk5.qz HR3' HA3'.no;obtain⟨g2,rfl,_,_,k3⟩:=Rw.Js (f:=qc) (c0:=λx=>C x) (λ_=>rfl) hr2 3 sm;obtain⟨g5,rfl,_,_,m0⟩:=Rw.Js (f:=qc) (c0:=λx=>C x) (λ_=>rfl) hr5 0 sm;obtain⟨g5',e5,_,_,m2⟩:=Rw.Js (f:=qc) (c0:=λx=>C x) (λ_=>rfl) hr5 2 sm;obtain⟨g5'',e5',_,_,m3⟩:=Rw.Js (f:=qc) (c0:=λx=>C x) (λ_=>rfl) hr5 3 sm;injection e5 with e5
 injection e5 with e5
 injection e5' with e5'
 injection e5' with e5'
 subst e5;subst e5';have K3:w5.cell? ⟨g2,3,E⟩=G (C ⟨#[48,32,48,32,48,32,45]⟩):=k3 w5 Bl.eH;have M0:w5.cell? ⟨g5,0,E⟩=G (C ⟨#[48,32,55,32,49,32,45]⟩):=m0 w5 Bl.eH;have M2:w5.cell? ⟨g5,2,E⟩=G (C ⟨#[48,32,48,32,48,32,45]⟩):=m2 w5 Bl.eH;have M3:w5.cell? ⟨g5,3,E⟩=G (C ⟨#[48,32,48,32,48,32,45]⟩):=m3 w5 Bl.eH
 go_wp2_with (go_at_call 23;refine QS (NR _) ?_)
 go_ret;exact⟨D,HW5⟩
section
variable {w w':World}{B aq s p b N u m n B2 D2 s2 p2 b2 N2 u2 m2 n2:Nat}{x x2:St}{ev nt ld ev2 nt2 lim2:Int}
theorem DQ.beside (h:DQ w B aq s p b x ev nt N u m n ld)(h2:DQ w B2 D2 s2 p2 b2 x2 ev2 nt2 N2 u2 m2 n2 lim2)(hk:KF [s2,p2,b2] w w')(hd:∀ q∈[aq,s,p,b],q∉[s2,p2,b2]):DQ w' B aq s p b x ev nt N u m n ld:=by
 obtain⟨S,g,⟨na,vo,vu,vs,vt,ul,h1⟩,hl,hg⟩:=h.r;obtain⟨S2,g2,⟨_,_,_,_,_,_,k1⟩,_,_⟩:=h2.r;exact⟨hk.hp h.d (hd aq sm),⟨S,g,⟨na,vo,vu,vs,vt,ul,⟨hk.hp h1.fo (hd s sm),hk.dk h1.dk (hd p sm) (hd b sm),k1.GV (λq hq=>hq) hk h1.st,h1.np,h1.nb,aH h1.hB hk.size⟩⟩,hl,hg⟩,h.nt,h.i⟩
theorem DQ.lt (h:DQ w B aq s p b x ev nt N u m n ld):∀ q∈[aq,s,p,b],q<w.heap.size:=by
 obtain⟨S,g,⟨_,_,_,_,_,_,h1⟩,_,_⟩:=h.r;have a0:=(aa2.1 h.d).1;exact nZ
end
theorem oH:∀ (l:List Ev) (s:St),∀ e∈taken bf fL s l,fL e=Q
 | [],_,e,he=>by cases he
 | x::r,s,e,he=>by
   unfold taken at he
   split at he
   ·exact oH r s e he
   ·rename_i s' hs;rcases aE.1 he with rfl | he
    ·exact uO hs
    ·exact oH r s' e he
theorem sj:∀ (l:List Ev) (s:St),(taken bf fL s l).length<=l.length
 | [],_=>by simp[taken]
 | x::r,s=>by
   unfold taken
   split
   ·have:=sj r s;simp;omega
   ·rename_i s' _;have:=sj r s';simp;omega
theorem Xl {e}(h:fL e=Q):e.time<FE:=by
 have key:iP e.time 0 1099511627775=Q:=by
  cases hb:iP e.time 0 1099511627775 with
  | true=>rfl
  | false=>unfold fL at h;simp[hb] at h
 unfold iP at key;simp only[aM,aN] at key;unfold FE;omega
theorem XB {A aj}{sa sb}{w:ay}{now:Int}(ha:runs bf fL St.zero A=G sa)(hb:runs bf fL St.zero aj=G sb)(h1:Mk A u=Mk aj u)(h2:(A.getLast?.map (·.time))=(aj.getLast?.map (·.time)))
 (h3:jT (Ig A u now) (fq (fq (PL A w u)))=jT (Ig aj u now) (fq (fq (PL A w u)))):Mq sa sb w u now:=by
 obtain⟨k1,k2,k3⟩:=AV (λe he=>Xl he) ha hb h1 h3;refine⟨?_,k1,k2,k3⟩;rw[xD A _ ha,xD aj _ hb,h2]
theorem CK (w)(vl vm)(L M)(qw qu:ay)(qa qb qn:Int)(hl:uD w vl L)(hm:uD w vm M)(hL:∀ e∈L,e.user.size<=9223372036854775807/\e.other.size<=9223372036854775807)(hM:∀ e∈M,e.user.size<=9223372036854775807/\e.other.size<=9223372036854775807)(hqw:qw.size<=9223372036854775807)(hqu:qu.size<=9223372036854775807)(hg:Gb w):
 aai 3 #[vl,vm,.agg #[C qw,C qu,I J qa,I J qb,I J qn]] w (.bool Q):=by
 obtain⟨AL,RI,TL,TM⟩:=kB (λW (hW:Bl w W)=>Mb W (hg.below hW (aB _))) (λW=>Is qw qu qa qb qn (gD qw) (gD qu) (fQ qn) (fQ qa) (fQ qb) W (λW=>fC qw W hqw) (λW=>fC qu W hqu) (λW=>mv qn W) (λW=>mv qa W) (λW=>mv qb W)) (λW (hW:Bl w W) (h30:L.length<=30)=>xF St.zero _ vl L 0 W (lk.zero W) (hl.bl hW) ik.zero om hL) (λW (hW:Bl w W) (h30:M.length<=30)=>xF St.zero _ vm M 0 W (lk.zero W) (hm.bl hW) ik.zero om hM);obtain⟨A1,c1,rfl,_⟩:=hl;obtain⟨A2,c2,rfl,_⟩:=hm;have HG:=H hg;generalize hr:(gD qw&&gD qu&&fQ qn&&fQ qa&&fQ qb)=rr at RI;have HRR:=H hr;obtain⟨l,hll,HLL⟩:=nh L.length;obtain⟨m,hml,HML⟩:=nh M.length;rw[<-hll] at TL ⊢;rw[<-hml] at TM ⊢;obtain⟨X,V,hX,hV,BX,HB,HXw,SV⟩:=gC w #[C qw,C qu,I J qa,I J qb,I J qn] 24;obtain⟨x0,x1,x2,x3,x4⟩:=wY BX;have HX:=H BX;clear hL hM hqw hqu hg hr hll hml BX SV;have hb0:=br V
 go_enter func3,ntmps3
 go_upto_region 1 with fail
 rw[<-hV,<-hX];clear hV hX
 go_upto_region 2 with fail
 obtain⟨ag,hZ⟩:=fe V.heap.size;obtain⟨V1,hV1⟩:=fe (V.alloc (.cells #[I J 4,av,av,ax,ax,av,av,ax,C qw,C qu,I J qa,I J qb,I J qn,I J 100,ax] 28));have BZ:Bk V1 ag 28 #[I J 4,av,av,ax,ax,av,av,ax,C qw,C qu,I J qa,I J qb,I J qn,I J 100,ax]:=by rw[hV1];exact fh _ _ hZ
 have LV1:=H (show Bl V V1 by rw[hV1];exact gl _ _);rw[<-hV1,<-hZ];clear hV1 hZ;obtain⟨HX1,HZ1,HB1⟩:=gi (LV1.bl HX) BZ (HB.ca LV1);clear BZ x0 x1 x2 x3 x4 hb0;obtain⟨z0,z1,z2,z3,z4,z5,z6,z7,z8,z9,z10,z11,z12,z13,z14⟩:=Bk.f15 HZ1;rcases bZ 30 l with hl30 | hl30
 ·have i1:(30:Int)<(l:Int):=om;exact abC
 rcases bZ 30 m with hm30 | hm30
 ·have i1:¬(30:Int)<(l:Int):=om;have i2:(30:Int)<(m:Int):=om;exact abC
 have i1:¬(30:Int)<(l:Int):=om;have i2:¬(30:Int)<(m:Int):=om;rcases dX rr with rfl | rfl
 rotate_left
 ·go_wp2_with (first | (go_at_call 4;refine(RI V1).mono ?_;rintro e w1 ⟨rfl,hb1⟩) | (go_at_call 5;refine(AL _ (HB1.ca hb1)).mono ?_;rintro e w2 ⟨rfl,hb2⟩))
  go_ret;exact⟨D,HB1.ca (hb1.ca hb2)⟩
 go_upto_region 4 with(go_at_call 4;refine(RI V1).mono ?_;rintro e w1 ⟨rfl,hb1⟩)
 obtain⟨HB2,HX2,HZ2,TL1⟩:=kB (HB1.ca hb1) (hb1.bl HX1) (hb1.bl HZ1) (λW hW=>TL W hW hl30);obtain⟨TM1,H30⟩:=eN (λW hW=>TM W hW hm30) (aJ hl30 hm30);clear hb1 z0 z1 z2 z3 z4 z5 z6 z7 z8 z9 z10 z11 z12 z13 z14 i1 i2 hl30 hm30
 go_upto_region 5 with(first | (go_at_call 6;with_reducible refine(TL1.out _ HB2.out).mono ?_;rintro e w2 ⟨v2,rfl,hr2,hb2⟩) | (go_at_call 6;with_reducible refine(TM1.out _ (HB2.out.ca hb2)).mono ?_;rintro e w3 ⟨v3,rfl,hr3,hb3⟩))
 obtain⟨LA,hLA⟩:=fe (taken bf fL St.zero L);obtain⟨LC,hLC⟩:=fe (taken bf fL St.zero M);rw[<-hLA] at hr2;rw[<-hLC] at hr3;obtain⟨HA,HC⟩:=eN (show(∀ e∈LA,fL e=Q)/\LA.length<=30/\∃ s,runs bf fL St.zero LA=G s by rw[hLA];exact⟨oH _ _,aH (sj _ _) (by have:=H30.out.1;have:=HLL.out;omega),pC _ _⟩) (show(∀ e∈LC,fL e=Q)/\LC.length<=30/\∃ s,runs bf fL St.zero LC=G s by rw[hLC];exact⟨oH _ _,aH (sj _ _) (by have:=H30.out.2;have:=HML.out;omega),pC _ _⟩);obtain⟨A5,c5,rfl,_,_⟩:=hr2.form;obtain⟨A6,c6,rfl,_,_⟩:=hr3.form;obtain⟨la,hla⟩:=fe LA.length;obtain⟨lc,hlc⟩:=fe LC.length;rw[<-hla] at hr2 ⊢;rw[<-hlc] at hr3 ⊢;obtain⟨HB3,HR2,HR3,HX3⟩:=kB (HB2.ca (hb2.ca hb3)) (hr2.bl hb3) hr3 ((hb2.ca hb3).bl HX2);obtain⟨HZ3,HLA,HLC⟩:=gi ((hb2.ca hb3).bl HZ2) hla hlc;clear hb2 hb3 hr2 hr3 hla hlc hLA hLC TL TM TL1 TM1 RI;obtain⟨RSA,RSC⟩:=eN (λW (hW:Bl w3 W)=>Dp LA qu _ 0 W (HR2.bl hW) gv) (λW (hW:Bl w3 W)=>Dp LC qu _ 0 W (HR3.bl hW) gL);obtain⟨sm,hsm,HSM⟩:=nh (decide (Mk LA qu=Mk LC qu));have SMC:=H (λW v u (h:Rw Ev.cs 26 6 W 0 v (Mk LA qu)) (h':Rw Ev.cs 26 6 W 0 u (Mk LC qu))=>(show aai 7 #[v,u] W (.bool sm) by rw[hsm];exact Vd.2 _ _ v u 0 0 W h h'));clear hsm;have x1:=Bk.all HX3 1 D;rcases dX sm with rfl | rfl
 rotate_left
 ·clear x1;have x1:=Bk.all HX3 1 D;refine jI (T:=Bl w3) (S:=Bl w3) [] (Bl.dr Bl.eH) (Bl.dr Bl.eH) λhT0 hS0=>?_
  try dsimp only at hT0 hS0
  refine aaa [0,1] ?_;refine td 2 ?_;refine aaa [4,5] ?_;refine td 6 ?_;refine eK 3 λKQ hK=>?_;go_simp
  (go_at_call 8;refine(RSA _ hS0).mono ?_;rintro e w5 ⟨v5,rfl,hr5,hb5⟩)
  have hT1:=hS0.ca hb5;have hS1:=hT1;refine kq hK ?_;clear hK KQ;refine eK 7 λKQ hK=>?_;go_simp
  (go_at_call 8;refine(RSC _ hS1).mono ?_;rintro e w6 ⟨v6,rfl,hr6,hb6⟩)
  have hT2:=hS1.ca hb6;have hS2:=hT2;refine kq hK ?_;clear hK KQ;refine eK 8 λKQ hK=>?_;go_simp
  (go_at_call 7;refine(SMC _ _ _ (hr5.bl hb6) hr6).mono ?_;rintro e w7 ⟨rfl,hb7⟩)
  have hT3:=hS2.ca hb7;have hS3:=hT3;refine kq hK ?_;clear hK KQ;refine aaa [9,10,11,12,13,14,15,16,17,18] ?_;exact oe
 rcases dS la with h0 | h0
 ·have e1:((la:Int)==0)=Q:=by simp[h0]
  clear h0;refine jI (T:=Bl w3) (S:=Bl w3) [] (Bl.dr Bl.eH) (Bl.dr Bl.eH) λhT0 hS0=>?_
  try dsimp only at hT0 hS0
  refine aaa [0,1] ?_;refine td 2 ?_;refine aaa [4,5] ?_;refine td 6 ?_;refine eK 3 λKQ hK=>?_;go_simp
  (go_at_call 8;refine(RSA _ hS0).mono ?_;rintro e w5 ⟨v5,rfl,hr5,hb5⟩)
  have hT1:=hS0.ca hb5;have hS1:=hT1;refine kq hK ?_;clear hK KQ;refine eK 7 λKQ hK=>?_;go_simp
  (go_at_call 8;refine(RSC _ hS1).mono ?_;rintro e w6 ⟨v6,rfl,hr6,hb6⟩)
  have hT2:=hS1.ca hb6;have hS2:=hT2;refine kq hK ?_;clear hK KQ;refine eK 8 λKQ hK=>?_;go_simp
  (go_at_call 7;refine(SMC _ _ _ (hr5.bl hb6) hr6).mono ?_;rintro e w7 ⟨rfl,hb7⟩)
  have hT3:=hS2.ca hb7;have hS3:=hT3;refine kq hK ?_;clear hK KQ;refine aaa [9,10,11,12,13,14,15,16,17,18] ?_;exact oe
 have e1:((la:Int)==0)=z:=by rw[aX];omega
 rcases dS lc with h1 | h1
 ·have e2:((lc:Int)==0)=Q:=by simp[h1]
  clear h0 h1;refine jI (T:=Bl w3) (S:=Bl w3) [] (Bl.dr Bl.eH) (Bl.dr Bl.eH) λhT0 hS0=>?_
  try dsimp only at hT0 hS0
  refine aaa [0,1] ?_;refine td 2 ?_;refine aaa [4,5] ?_;refine td 6 ?_;refine eK 3 λKQ hK=>?_;go_simp
  (go_at_call 8;refine(RSA _ hS0).mono ?_;rintro e w5 ⟨v5,rfl,hr5,hb5⟩)
  have hT1:=hS0.ca hb5;have hS1:=hT1;refine kq hK ?_;clear hK KQ;refine eK 7 λKQ hK=>?_;go_simp
  (go_at_call 8;refine(RSC _ hS1).mono ?_;rintro e w6 ⟨v6,rfl,hr6,hb6⟩)
  have hT2:=hS1.ca hb6;have hS2:=hT2;refine kq hK ?_;clear hK KQ;refine eK 8 λKQ hK=>?_;go_simp
  (go_at_call 7;refine(SMC _ _ _ (hr5.bl hb6) hr6).mono ?_;rintro e w7 ⟨rfl,hb7⟩)
  have hT3:=hS2.ca hb7;have hS3:=hT3;refine kq hK ?_;clear hK KQ;refine aaa [9,10,11,12,13,14,15,16,17,18] ?_;exact oe
 have e2:((lc:Int)==0)=z:=by rw[aX];omega
 obtain⟨ka,hka⟩:∃ k,la=k+1:=⟨la - 1,om⟩;obtain⟨kc,hkc⟩:∃ k,lc=k+1:=⟨lc - 1,om⟩;have hka':ka<LA.length:=by have:=HLA.out;omega
 have hkc':kc<LC.length:=by have:=HLC.out;omega
 obtain⟨ga,rfl,_,_,_,a1,_⟩:=HR2.FK ka hka';obtain⟨gc,rfl,_,_,_,b1,_⟩:=HR3.FK kc hkc';have f1:IntKind.i64.wrap ((la:Int) - 1)=(ka:Int):=by have:=HA.out.2.1;have:=HLA.out;rw[jh ⟨om,om⟩];omega
 have f2:IntKind.i64.wrap ((lc:Int) - 1)=(kc:Int):=by have:=HC.out.2.1;have:=HLC.out;rw[jh ⟨om,om⟩];omega
 obtain⟨i1,i2⟩:=ln (k:=ka) (m:=la) om;obtain⟨i3,i4⟩:=ln (k:=kc) (m:=lc) om;obtain⟨HTA,HTC⟩:=eN (show LA.getLast?.map (·.time)=G LA[ka].time by rw[List.getLast?_eq_getElem?,<-HLA.out,hka,Nat.add_sub_cancel,aW hka'];rfl) (show LC.getLast?.map (·.time)=G LC[kc].time by rw[List.getLast?_eq_getElem?,<-HLC.out,hkc,Nat.add_sub_cancel,aW hkc'];rfl);generalize LA[ka].time=ta at*;generalize LC[kc].time=tc at*;clear h0 h1 hka hkc;obtain⟨q,hq,HQ⟩:=nh ((ta==tc));have e3:(ta==tc)=q:=hq.symm;have e4:(ta != tc)= !q:=by rw[hq];rfl
 clear hq;refine jI (T:=Bl w3) (S:=Bl w3) [] (Bl.dr Bl.eH) (Bl.dr Bl.eH) λhT0 hS0=>?_
 try dsimp only at hT0 hS0
 refine aaa [0,1] ?_;refine td 2 ?_;refine aaa [4,5] ?_;refine td 6 ?_;refine eK 3 λKQ hK=>?_;go_simp
 (go_at_call 8;refine(RSA _ hS0).mono ?_;rintro e w5 ⟨v5,rfl,hr5,hb5⟩)
 have hT1:=hS0.ca hb5;have hS1:=hT1;refine kq hK ?_;clear hK KQ;refine eK 7 λKQ hK=>?_;go_simp
 (go_at_call 8;refine(RSC _ hS1).mono ?_;rintro e w6 ⟨v6,rfl,hr6,hb6⟩)
 have hT2:=hS1.ca hb6;have hS2:=hT2;refine kq hK ?_;clear hK KQ;refine eK 8 λKQ hK=>?_;go_simp
 (go_at_call 7;refine(SMC _ _ _ (hr5.bl hb6) hr6).mono ?_;rintro e w7 ⟨rfl,hb7⟩)
 have hT3:=hS2.ca hb7;have hS3:=hT3;refine kq hK ?_;clear hK KQ;refine aaa [9,10,11,12,13,14,15,16,17,18,19,20,21,22,23,24,25,26] ?_;refine td 27 ?_;refine aaa [28,29,30,31,32,33] ?_;refine td 34 ?_;refine aaa [35,36] ?_;refine iU ?_;have hL:=hS3;clear e1 e2 e3 e4 f1 f2 i1 i2 i3 i4 hT0 hT1 hT2 hT3 hS0 hS1 hS2 hS3 a1 b1 hr5 hr6 hb5 hb6 hb7;rcases dX q with rfl | rfl
 rotate_left
 ·go_wp2_with (go_at_call 5;refine(AL _ (HB3.ca hL)).mono ?_;rintro e w9 ⟨rfl,hb9⟩)
  go_ret;exact⟨D,HB3.ca (hL.ca hb9)⟩
 have HT:=H (show ta=tc from by have:=HQ.out;simpa using this.symm);have x0:=Bk.all HX3 0 D;have PD:=H (λW (hW:Bl w3 W)=>xG LA qw qu _ 0 W (HR2.bl hW) gv)
 go_upto_region 8 with(go_at_call 9;refine(PD _ hL).mono ?_;rintro e w8 ⟨v8,rfl,hr8,hpl,hb8⟩)
 obtain⟨HB8,HPL,HX8,HR8⟩:=kB (hL.ca hb8) hpl ((hL.ca hb8).bl HX3) hr8;clear hL hb8 hpl hr8 x0 x1 PD RSA RSC SMC;obtain⟨SA,hSA⟩:=fe (Ig LA qu qn);obtain⟨SC,hSC⟩:=fe (Ig LC qu qn);obtain⟨PN,hPN⟩:=fe (fq (PL LA qw qu));obtain⟨CA,hCA⟩:=fe (jT SA (fq PN));obtain⟨CC,hCC⟩:=fe (jT SC (fq PN));obtain⟨s2,hs2⟩:=fe (decide (CA=CC));obtain⟨STA,STC,HPN⟩:=gi (λW (hW:Bl w8 W)=>(show Calls prog 12 #[_,C qu,I J qn] W λe w'=>∃ v',e= .returned v'/\Rw eP.cs 58 4 w' 0 v' SA/\SA.length<=LA.length/\Bl W w' by rw[hSA];exact tR LA qu qn _ 0 W (HR2.bl (HB8.ca hW)) gv)) (λW (hW:Bl w8 W)=>(show Calls prog 12 #[_,C qu,I J qn] W λe w'=>∃ v',e= .returned v'/\Rw eP.cs 58 4 w' 0 v' SC/\SC.length<=LC.length/\Bl W w' by rw[hSC];exact tR LC qu qn _ 0 W (HR3.bl (HB8.ca hW)) gL)) (show PN.length<=100 by rw[hPN];have h1:=lG (PL LA qw qu);have h2:=HPL.out;have h3:=HA.out.2.1;omega);obtain⟨CUA,CUC,SM8,HCUT⟩:=kB (λW v u (h:Rw eP.cs 58 4 W 0 v SA) (h':Rw fm.cs 68 2 W 0 u PN) (hl:SA.length<=LA.length)=>(show Calls prog 11 #[v,u] W λe w'=>∃ v',e= .returned v'/\Rw eP.cs 58 4 w' 0 v' CA/\Bl W w' by rw[hCA];exact Du SA PN v u 0 0 W h h' gv HPN)) (λW v u (h:Rw eP.cs 58 4 W 0 v SC) (h':Rw fm.cs 68 2 W 0 u PN) (hl:SC.length<=LC.length)=>(show Calls prog 11 #[v,u] W λe w'=>∃ v',e= .returned v'/\Rw eP.cs 58 4 w' 0 v' CC/\Bl W w' by rw[hCC];exact Du SC PN v u 0 0 W h h' gL HPN)) (λW v u (h:Rw eP.cs 58 4 W 0 v CA) (h':Rw eP.cs 58 4 W 0 u CC)=>(show aai 10 #[v,u] W (.bool s2) by rw[hs2];exact Vd.1 _ _ v u 0 0 W h h')) (show s2=Q->jT (Ig LA qu qn) (fq (fq (PL LA qw qu)))=jT (Ig LC qu qn) (fq (fq (PL LA qw qu))) by rw[<-hSA,<-hSC,<-hPN,<-hCA,<-hCC];intro h;rw[hs2] at h;exact bo h);replace HR8:=H (show Rw fm.cs 68 2 w8 0 v8 PN by rw[hPN];exact HR8);clear hSA hSC hPN hCA hCC hs2 HPL;have x1:=Bk.all HX8 1 D;have x4:=Bk.all HX8 4 D;refine jI (T:=Bl w8) (S:=Bl w8) [] (Bl.dr Bl.eH) (Bl.dr Bl.eH) λhT0 hS0=>?_
 try dsimp only at hT0 hS0
 refine aaa [0,1] ?_;refine td 2 ?_;refine qd 3 ?_;refine td 4 ?_;refine aaa [6,8,9] ?_;refine td 10 ?_;refine qd 11 ?_;refine td 12 ?_;refine qd 14 ?_;refine eK 5 λKQ hK=>?_;go_simp
 (go_at_call 12;refine(STA _ hS0).mono ?_;rintro e w5 ⟨v5,rfl,hr5,hl5,hb5⟩)
 have hT1:=hS0.ca hb5;have hS1:=hT1;refine kq hK ?_;clear hK KQ;refine eK 7 λKQ hK=>?_;go_simp
 (go_at_call 11;refine(CUA _ _ _ hr5 (HR8.bl hS1) hl5).mono ?_;rintro e w6 ⟨v6,rfl,hr6,hb6⟩)
 have hT2:=hS1.ca hb6;have hS2:=hT2;refine kq hK ?_;clear hK KQ;refine eK 13 λKQ hK=>?_;go_simp
 (go_at_call 12;refine(STC _ hS2).mono ?_;rintro e w7 ⟨v7,rfl,hr7,hl7,hb7⟩)
 have hT3:=hS2.ca hb7;have hS3:=hT3;refine kq hK ?_;clear hK KQ;refine eK 15 λKQ hK=>?_;go_simp
 (go_at_call 11;refine(CUC _ _ _ hr7 (HR8.bl hS3) hl7).mono ?_;rintro e w9 ⟨v9,rfl,hr9,hb9⟩)
 have hT4:=hS3.ca hb9;have hS4:=hT4;refine kq hK ?_;clear hK KQ;refine eK 16 λKQ hK=>?_;go_simp
 (go_at_call 10;refine(SM8 _ _ _ ((hr6.bl hb7).bl hb9) hr9).mono ?_;rintro e w10 ⟨rfl,hb10⟩)
 have hT5:=hS4.ca hb10;have hS5:=hT5;refine kq hK ?_;clear hK KQ;refine qd 17 ?_;refine iU ?_;have hL:=hS5;clear hT0 hT1 hT2 hT3 hT4 hT5 hS0 hS1 hS2 hS3 hS4 hS5 hr5 hr6 hr7 hr9 hb5 hb6 hb7 hb9 hb10 hl5 hl7 x1 x4;rcases dX s2 with rfl | rfl
 rotate_left
 ·go_wp2_with (go_at_call 5;refine(AL _ (HB3.ca (HB8.ca hL))).mono ?_;rintro e w19 ⟨rfl,hb19⟩)
  go_ret;exact⟨D,HB3.ca (HB8.ca (hL.ca hb19))⟩
 obtain⟨sa,hra⟩:=HA.out.2.2;obtain⟨sc,hrc⟩:=HC.out.2.2;obtain⟨ALK,HRA,HRC,HB10⟩:=kB (show Mq sa sc qw qu qn from XB hra hrc (bo HSM.symm) (by rw[HTA.out,HTC.out,HT.out]) (HCUT D)) hra hrc hL;clear hL hra hrc SM8 CUA CUC STA STC HPN HR8;obtain⟨HBX,NW1,NW2⟩:=gi (HB3.ca (HB8.ca HB10)) (U7 1048576 w10) (U7 1048576);obtain⟨ld,hlim⟩:∃ x:Int,x=min (max 1048576 0) 1073741824:=⟨_,D⟩;rw[<-hlim] at NW1 NW2;have HLIM:=H (show 13000<=ld by rw[hlim];decide);clear hlim
 go_upto_region 11 with(first | (go_at_call 13;with_reducible refine NW1.out.mono ?_;rintro e w11 ⟨D1,s1,p1,b1,rfl,hq1,hb1,hs1,hp1,hbb1,hD1⟩) | (go_at_call 13;with_reducible refine(NW2.out _).mono ?_;rintro e w12 ⟨D2,s2,p2,b2,rfl,hq2,hb2,hs2,hp2,hbb2,hD2⟩))
 have hlt1:=hq1.lt;obtain⟨HF1,HF2,HN1,HN2⟩:=kB (show ∀ q∈[s1,p1,b1],w10.heap.size<=q by intro q hq;simp only[aE,aO,aQ] at hq;rcases hq with rfl | rfl | rfl<;>assumption) (show ∀ q∈[s2,p2,b2],w10.heap.size<=q by have h0:=hb1.size;intro q hq;simp only[aE,aO,aQ] at hq;rcases hq with rfl | rfl | rfl<;>omega) (show ∀ q∈[D1,s1,p1,b1],q∉[s2,p2,b2] by intro q hq;have h0:=hlt1 q hq;simp only[aE,aO,aQ,bN];omega) (show ∀ q∈[D2,s2,p2,b2],q∉[s1,p1,b1] by intro q hq;have h1:=hlt1 s1 sm;have h2:=hlt1 p1 sm;have h3:=hlt1 b1 sm;simp only[aE,aO,aQ] at hq ⊢;rcases hq with rfl | rfl | rfl | rfl<;>omega);obtain⟨HB12,HQ1,HQ2⟩:=gi (hb1.ca hb2) (hq1.bl hb2) hq2;clear hlt1 hq1 hb1 hs1 hp1 hbb1 hD1 hq2 hb2 hs2 hp2 hbb2 hD2 NW1 NW2
 go_upto_region 13 with fail
 obtain⟨PU1,PU2,GW,HLIMA⟩:=kB (λW (hW:Bl w10 W)=>Dw LA _ 0 W (HR2.bl (HB8.ca (HB10.ca hW))) gv HA.out.1) (λW (hW:Bl w10 W)=>Dw LC _ 0 W (HR3.bl (HB8.ca (HB10.ca hW))) gL HC.out.1) (λW (hW:Bl w10 W)=>(HG.below (HBX.ca hW) (aB _):Gb W)) (show((0:Nat):Int)+418*LA.length<=ld by have h1:=HA.out.2.1;have h2:=HLIM.out;omega);have HLIMC:=H (show((0:Nat):Int)+418*LC.length<=ld by have h1:=HC.out.2.1;have h2:=HLIM.out;omega);have PL1:=H (λW (hW:Bl w12 W) v hv=>zF (HQ1.bl hW) LA HRA gv gv gv (GW w10 Bl.eH) (HB12.ca hW) HF1 HLIMA v 0 hv)
 go_upto_region 14 with(first | (go_at_call 15;refine(PU1 _ HB12).mono ?_;rintro e w13 ⟨v13,rfl,hr13,hb13⟩) | (go_at_call 14;refine(PL1 _ hb13 _ hr13).mono ?_;rintro e w14 ⟨v14,rfl,⟨nt1,u1,hq14⟩,hk14⟩))
 obtain⟨HB14,HP1,HP2⟩:=gi (hk14.yN (HB12.ca hb13) HF1) hq14 ((HQ2.bl hb13).beside (HQ1.bl hb13) hk14 HN2);clear hr13 hb13 hq14 hk14 PU1 PL1 HQ1 HQ2;have PL2:=H (λW (hW:Bl w14 W) v hv=>zF (HP2.bl hW) LC HRC gL gL gL (GW w10 Bl.eH) (HB14.ca hW) HF2 HLIMC v 0 hv)
 go_upto_region 15 with(first | (go_at_call 15;refine(PU2 _ HB14).mono ?_;rintro e w15 ⟨v15,rfl,hr15,hb15⟩) | (go_at_call 14;refine(PL2 _ hb15 _ hr15).mono ?_;rintro e w16 ⟨v16,rfl,⟨nt2,u2,hq16⟩,hk16⟩))
 obtain⟨HB16,HE2,HE1⟩:=gi (hk16.yN (HB14.ca hb15) HF2) hq16 ((HP1.bl hb15).beside (HP2.bl hb15) hk16 HN1);clear hr15 hb15 hq16 hk16 PU2 PL2 HP1 HP2;obtain⟨HX16,HZ16⟩:=eN (HB16.bl (HB10.bl HX8)) (HB16.bl (HB10.bl (HB8.bl HZ3)));obtain⟨g1,g2,g3,g4,g5⟩:gD qw=Q/\gD qu=Q/\fQ qn=Q/\fQ qa=Q/\fQ qb=Q:=by
  have h:=HRR.out;simp only[aM] at h;exact⟨h.1.1.1.1,h.1.1.1.2,h.1.1.2,h.1.2,h.2⟩
 obtain⟨T4,hT4⟩:=fe (gR [gI,qw,qu,eD qa,eD qb,eD qn,eD 100,gE]);obtain⟨T5,hT5⟩:=fe (gR [iz,qw,qu,eD qn]);obtain⟨RW4,RW5,RG1,RG2⟩:=kB (λW=>Sc qw qu qa qb qn W g1 g2 g4 g5 g3) (λW=>Sb qw qu qn W g1 g2 g3) (λW (hW:Bl w16 W)=>(HE1.bl hW).range gv (GW _ (HB16.ca hW)) qw qu qa qb qn g1 g2 g4 g5 g3) (λW (hW:Bl w16 W)=>(HE2.bl hW).range gL (GW _ (HB16.ca hW)) qw qu qa qb qn g1 g2 g4 g5 g3);obtain⟨LS1,LS2⟩:=eN (λW (hW:Bl w16 W)=>(HE1.bl hW).last gv (GW _ (HB16.ca hW)) qw qu qn g1 g2 g3) (λW (hW:Bl w16 W)=>(HE2.bl hW).last gL (GW _ (HB16.ca hW)) qw qu qn g1 g2 g3);rw[<-hT4] at RW4 RG1 RG2;rw[<-hT5] at RW5 LS1 LS2;clear hT4 hT5 g1 g2 g3 g4 g5 HRR;have x0:=Bk.all HX16 0 D;have x1:=Bk.all HX16 1 D;have x4:=Bk.all HX16 4 D;have z0:=Bk.all HZ16 0 D;have z1:=Bk.all HZ16 1 D;have z2:=Bk.all HZ16 2 D;have z3:=Bk.all HZ16 3 D;have z4:=Bk.all HZ16 4 D;have z5:=Bk.all HZ16 5 D;have z6:=Bk.all HZ16 6 D;have z7:=Bk.all HZ16 7 D;have z8:=Bk.all HZ16 8 D;have z9:=Bk.all HZ16 9 D;have z10:=Bk.all HZ16 10 D;have z11:=Bk.all HZ16 11 D;have z12:=Bk.all HZ16 12 D;have z13:=Bk.all HZ16 13 D;have z14:=Bk.all HZ16 14 D;refine jI (T:=Bl w16) (S:=Bl w16) [] (Bl.dr Bl.eH) (Bl.dr Bl.eH) λhT0 hS0=>?_
 try dsimp only at hT0 hS0
 refine td 0 ?_;refine qd 2 ?_;refine td 3 ?_;refine qd 4 ?_;refine td 5 ?_;refine qd 6 ?_;refine td 7 ?_;refine aaa [8,9,13] ?_;refine eK 1 λKQ hK=>?_;go_simp
 (go_at_call 16;refine(RW4 _).mono ?_;rintro e wa ⟨rfl,hba⟩)
 have hT1:=hS0.ca hba;have hS1:=hT1;refine kq hK ?_;clear hK KQ;refine eK 10 λKQ hK=>?_;go_simp
 (go_at_call 16;refine(RW5 _).mono ?_;rintro e wb ⟨rfl,hbb⟩)
 have hT2:=hS1.ca hbb;have hS2:=hT2;refine kq hK ?_;clear hK KQ;refine eK 11 λKQ hK=>?_;go_simp;refine jf (hK _ _) (hT2.al _) (λhT3 hA3 hM3=>?_);clear hM3
 try dsimp only at hT3
 have hS3:=hT3;clear hK
 try simp only[gz,fI]
 refine qd 12 ?_;refine iU ?_;have hL:=hS3;have hRT:=ki [T4,T5] (pv hA3 fG) D D sm (aD _);obtain⟨HL17,HRT⟩:=eN hL hRT;clear hL hRT x0 x1 x4 z0 z1 z2 z3 z4 z5 z6 z7 z8 z9 z10 z11 z12 z13 z14;obtain⟨an,hG⟩:=fe wb.heap.size;rw[<-hG] at HRT ⊢;clear hG hT0 hS0 hT1 hS1 hT2 hS2 hT3 hS3 hba hbb
 go_wp2_with fail
 go_loopw [129] (λi wr=>(i= I J 0∨i= I J 1∨i= I J 2)/\Bl w16 wr/\wr.cell? ⟨an,0,E⟩=G (C T4)/\wr.cell? ⟨an,1,E⟩=G (C T5)) (λi _=>2 - (intOf i).toNat)
 case atStart=>
  obtain⟨q0,e0,_,_,c0⟩:=Rw.Js (f:=qc) (c0:=λx=>C x) (λ_=>rfl) HRT 0 sm;obtain⟨q1,e1,_,_,c1⟩:=Rw.Js (f:=qc) (c0:=λx=>C x) (λ_=>rfl) HRT 1 sm;injection e0 with e0
  injection e0 with e0
  injection e1 with e1
  injection e1 with e1
  subst e0;subst e1;exact⟨.inl D,HL17,c0 _ Bl.eH,c1 _ Bl.eH⟩
 case round=>
  obtain⟨hi,hb,k0,k1⟩:=hrel;obtain⟨HBR,K0,K1⟩:=gi hb k0 k1;rcases hi with rfl | rfl | rfl
  ·clear k1 hb
   go_wp2_with (first | (go_at_call 17;with_reducible refine(RG1.out _ HBR.out).mono ?_;rintro e w20 ⟨La,na,ca,rfl,hra,hba⟩) | (go_at_call 17;with_reducible refine(RG2.out _ (HBR.out.ca hba)).mono ?_;rintro e w21 ⟨Lb,nb,cb,rfl,hrb,hbb⟩;obtain⟨rfl,rfl,rfl⟩:=ALK.out.rng hra hrb;clear hra hrb;generalize oG ca 0 z na La=T))
   exact⟨⟨.inr (.inl D),HBR.ca (hba.ca hbb),(hba.ca hbb).ce K0,(hba.ca hbb).ce K1⟩,fV⟩
  ·clear k0 hb
   go_wp2_with (first | (go_at_call 17;with_reducible refine(LS1.out _ HBR.out).mono ?_;rintro e w20 ⟨ca,aa,ba,rfl,hra,hba⟩) | (go_at_call 17;with_reducible refine(LS2.out _ (HBR.out.ca hba)).mono ?_;rintro e w21 ⟨cb,ab,bb,rfl,hrb,hbb⟩;obtain⟨rfl,rfl,rfl⟩:=ALK.out.last hra hrb;clear hra hrb;generalize oG ca aa ba ⟨#[]⟩ []=T))
   exact⟨⟨.inr (.inr D),HBR.ca (hba.ca hbb),(hba.ca hbb).ce K0,(hba.ca hbb).ce K1⟩,fV⟩
  ·clear k0 k1 hb;have HBZ:=H (HBX.ca (HB16.ca HBR))
   go_wp2_with (go_at_call 5;refine(AL _ HBZ).mono ?_;rintro e w19 ⟨rfl,hb19⟩)
   go_ret;exact⟨D,HBZ.ca hb19⟩
