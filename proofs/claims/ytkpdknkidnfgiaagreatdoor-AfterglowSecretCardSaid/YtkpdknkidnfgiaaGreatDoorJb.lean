/- Lemmas for AfterglowSecret: what functions of the program return; no condition. -/
import Derived.Test.YtkpdknkidnfgiaaGreatDoorJY
import Derived.Test.YtkpdknkidnfgiaaGreatDoorJZ
set_option maxHeartbeats 0
set_option maxRecDepth 100000
set_option linter.unusedVariables false
open Go.Value renaming int->I,string->C,slice->Z
open Go.IntKind renaming i64->J,u8->U
open Option renaming none->E,some->G
open Bool renaming true->Q,false->z
open Go.Lib renaming hid->H
open Go.Proofs.Tryz
namespace Go.Proofs.YtkpdknkidnfgiaaGreatDoor
theorem rB{p:Prop}(h:p:=by
 rcases hw with rfl | ⟨q,cs,rfl,hq⟩
 ·cases e
 ·injection e with e
  subst e;have h4:w.heap[aq]?=G (.cells _ _):=h.d;have h5:w.heap[aq]?=G (.cells _ _):=hq;rw[h4] at h5;injection h5 with h5
  injection h5 with _ h5
  exact absurd h5 dc):p:=h
theorem nZ{p:Prop}(h:p:=by
 have a1:=(aa2.1 h1.fo).1;have a2:=h1.dk.fo.lt;have a3:=h1.dk.own.lt;intro q hq;simp only[aE,aO,aQ] at hq;omega):p:=h
variable {τ:ByteArray} {c' ev ld na nt:Int} {B N aq b m n s:Nat} {vo vs vt vu:Value} {O w w':World}
namespace Tp
open Go Go.RowKit Go.Lib CrcM FrM SgM
open Ds (Dk eF lg mg jY ptr kJ tick)
open Ds.DkM (bf Fl gG ja kK jW jP)
def oS:ay:=oG 0 0 z ⟨#[]⟩ []
theorem qC:(⟨#[]⟩:ay)≠gE:=dc
theorem yq{p:Nat}{S}{g}{x x'}(h:SX w B s p b S g x ev nt)(hD:Bk w aq 96 #[ptr s]){u:Nat}(hl:LD N ld g u S)(hN:N<=1000000)(hn:g.n<=999999)(hnt:0<=nt/\nt<=1000000)(hO:Gb O)(hOw:Bl O w)(hOF:∀ q∈[s,p,b],O.heap.size<=q)(e)(he:fL e=Q)(hst:ft bf fL x e=G x')(hI:ik n x)(hn60:n<=60)(hr:(u:Int)+((nz e).size:Nat)<=ld):
 Calls prog 17 #[ptr aq,C (kU e)] w λr w'=>r= .returned (C oS)/\SX w' B s p b (gT S g e).1 (gT S g e).2 x' ev (nt+1)/\KF [s,p,b] w w':=by
 obtain⟨na,vo,vu,vs,vt,ul,h⟩:=h;obtain⟨k,t,us,o,n',st⟩:=e;refine ts (τ:=kU ⟨k,t,us,o,n',st⟩) (ar:=λw'=>SX w' B s p b (gT S g ⟨k,t,us,o,n',st⟩).1 (gT S g ⟨k,t,us,o,n',st⟩).2 x' ev (nt+1)) 0 0 z ⟨#[]⟩ [] qC dc dc hO hOw hOF (λW W' hb hq=>hq.bl hb) ?_;refine(O0.1 k t us o n' st h hD hl.down 0 (kU ⟨k,t,us,o,n',st⟩) (λW hW=>ace k t us o n' st W he (hO.below (hOw.ca hW) (aB _)))
  (λW hW=>Xt (h.bl hW) (hW.bl hD) hl hN k t us o n' st hn hnt hO (hOw.ca hW) hOF he hst (hI.f.up hn60) hI.u hI.t hr)).mono ?_
 rintro e w' ⟨rfl,h1,h2⟩;exact⟨_,D,Rw.nil,h1,h2⟩
theorem oX {lt:ay->ay->Bool}{ok:Ev->Bool}:∀ (A aj:List Ev) (s:St),runs lt ok s (A++aj)=(runs lt ok s A).bind λy=>runs lt ok y aj
 | [],aj,s=>rfl
 | e::A,aj,s=>by
   rw[bq,runs,runs];cases ft lt ok s e with
   | none=>rfl
   | some s'=>exact oX A aj s'
structure DQ (w:World)(B aq s p b:Nat)(x:St)(ev nt:Int)(N u m n:Nat)(ld:Int):Prop where
 d:Bk w aq 96 #[ptr s]
 r:∃ S g,SX w B s p b S g x ev nt/\LD N ld g u S/\g.n<=(m:Nat)
 nt:0<=nt/\nt<=(N:Nat)
 i:ik n x
theorem DQ.bl{p u:Nat}{x}(h:DQ w B aq s p b x ev nt N u m n ld)(hb:Bl w w'):DQ w' B aq s p b x ev nt N u m n ld:=
 let⟨S,g,h1,h2,h3⟩:=h.r;⟨hb.bl h.d,⟨S,g,h1.bl hb,h2,h3⟩,h.nt,h.i⟩
theorem DQ.G7{p u:Nat}{x}{row}(h:DQ w B aq s p b x ev nt N u m n ld)(hw:Mh w row)(hg:w.grownBy w' row):DQ w' B aq s p b x ev nt N u m n ld:=by
 obtain⟨S,g,h1,h2,h3⟩:=h.r;refine⟨(hg.block aq (aa2.1 h.d).1 λe=>?_).trans h.d,⟨S,g,h1.G7 hw hg,h2,h3⟩,h.nt,h.i⟩;exact rB
theorem DQ.put{p u:Nat}{x x'}(h:DQ w B aq s p b x ev nt N u m n ld)(hN:N<=900000)(hm:m<=999999)(hn60:n<=60)(hO:Gb O)(hOw:Bl O w)(hOF:∀ q∈[s,p,b],O.heap.size<=q)(e)(he:fL e=Q)(hst:ft bf fL x e=G x')(hr:(u:Int)+((nz e).size:Nat)<=ld):
 Calls prog 17 #[ptr aq,C (kU e)] w λr w'=>r= .returned (C oS)/\DQ w' B aq s p b x' ev (nt+1) (N+3) (u+(nz e).size) (m+1) (n+1) ld/\KF [s,p,b] w w':=by
 obtain⟨S,g,h1,h2,h3⟩:=h.r;obtain⟨z1,z2⟩:=jC he;have nD:aq∉[s,p,b]:=by
  obtain⟨_,_,_,_,_,_,h1⟩:=h1;obtain⟨q1,q2,q3⟩:=h1.ne h.d dc dc;simp[q1,q2,q3]
 refine(yq h1 h.d h2 om om ⟨h.nt.1,by have:=h.nt.2;omega⟩ hO hOw hOF e he hst h.i hn60 hr).mono ?_;rintro r w' ⟨rfl,k1,k2⟩;obtain⟨l1,l2⟩:=WW h2 om e hr;exact⟨D,⟨k2.hp h.d nD,⟨_,_,k1,l1,om⟩,⟨by have:=h.nt.1;omega,by have:=h.nt.2;omega⟩,h.i.step om om hst⟩,k2⟩
theorem zF{p u:Nat}{x x'}(h:DQ w B aq s p b x ev nt N u m n ld)(L)(hrun:runs bf fL x L=G x')(hN:N+3*L.length<=900000)(hm:m+L.length<=999999)(hn60:n+L.length<=60)(hO:Gb O)(hOw:Bl O w)(hOF:∀ q∈[s,p,b],O.heap.size<=q)(hlim:(u:Int)+418*L.length<=ld)(v)(vb:Nat)(hv:Rw qc 9 1 w vb v (L.map kU)):
 Calls prog 14 #[ptr aq,v] w λe w'=>∃ v',e= .returned v'/\(∃ nt' u',DQ w' B aq s p b x' ev nt' (N+3*L.length) u' (m+L.length) (n+L.length) ld)/\KF [s,p,b] w w':=by
 have hs:=λg cs (hq:Bk w g 9 cs)=>(by
  obtain⟨S,g0,⟨_,_,_,_,_,_,h1⟩,_,_⟩:=h.r;obtain⟨q1,q2,q3⟩:=h1.ne hq dc dc;simp[q1,q2,q3]:g∉[s,p,b])
 have hlt:∀ q∈[s,p,b],q<w.heap.size:=by
  obtain⟨S,g0,⟨_,_,_,_,_,_,h1⟩,_,_⟩:=h.r;exact nZ
 have P:=xQ (aq:=aq) (F:=[s,p,b]) (L.map kU) (List.replicate L.length oS) v vb
  (λk W=>∃ y nt' u',runs bf fL x (L.take k)=G y/\DQ W B aq s p b y ev nt' (N+3*k) u' (m+k) (n+k) ld/\(u':Int)<=u+418*k) hv hs sm (by rw[bg];omega) hlt
  ⟨x,nt,u,D,h,om⟩ (λk W W' hb ⟨y,n1,u1,a,q,c⟩=>⟨y,n1,u1,a,q.bl hb,c⟩) (λk W W' row ⟨y,n1,u1,a,q,c⟩ hw hg=>⟨y,n1,u1,a,q.G7 hw hg,c⟩)
  (λk hk hk' W hW ⟨y,n1,u1,a,q,c⟩=>by
   have hkl:k<L.length:=by simpa using hk
   rw[List.getElem_map,List.getElem_replicate];have hdec:L=L.take k++L[k]::L.drop (k+1):=by rw[<-aR hkl,bA]
   have hr2:=hrun;rw[hdec,oX,a] at hr2;simp only[Option.bind_some,runs] at hr2;cases hst:ft bf fL y L[k] with
   | none=>rw[hst] at hr2;cases hr2
   | some y'=>
    have he:fL L[k]=Q:=by
     unfold ft at hst
     split at hst
     ·rename_i hh;exact hh.1
     ·cases hst
    have hz:=(uj he).1;refine(q.put om om om hO (hW.yN hOw hOF) hOF L[k] he hst om).mono ?_;rintro r w' ⟨rfl,k1,k2⟩;refine⟨D,⟨y',n1+1,u1+(nz L[k]).size,?_,k1,om⟩,k2⟩;rw[aL hkl,oX,a];simp[runs,hst])
 refine P.mono ?_;rintro e w' ⟨v',rfl,_,⟨y,n1,u1,a,q,c⟩,hk⟩;rw[bg] at a q;rw[aT,hrun] at a;injection a with a
 subst a;exact⟨v',D,⟨n1,u1,q⟩,hk⟩
theorem VZ{p:Nat}(h:eF w p b (kJ ld)):Calls prog 42 #[ptr p] w λe w'=>∃ s,e= .returned (.tuple #[ptr s,av])/\SX w' (s+1) s p b (jY (kJ ld) (SgM.fS ⟨114,0⟩)).1 ⟨114,0⟩ St.zero 0 0/\KF [p,b] w w'/\w.heap.size<=s:=by
 obtain⟨HPW,OP⟩:=eN (show p<w.heap.size/\b<w.heap.size from⟨h.fo.lt,h.own.lt⟩) (WO h);clear h
 go_enter func42,ntmps42
 go_upto_region 2 with(go_at_call 61;refine OP.mono ?_;rintro e w1 ⟨rfl,hd1,hk1⟩)
 obtain⟨HD1,HK1⟩:=eN hd1 hk1;obtain⟨V2,X,hV2,hX,BX,LV2⟩:=iC w1 #[av,av,aw,aw,aw,aw,I U 114,av,av] 135;rw[<-hV2,<-hX];clear hV2;replace hX:=H hX;obtain⟨x0,x1,x2,x3,x4,x5,x6,x7,x8⟩:=Rg BX;have hb22:=br V2
 go_wp2_with fail
 go_ret2
 have hz:=aH HK1.size LV2.size;have hp:=HPW.out;refine⟨V2.heap.size,D,⟨0,aw,aw,aw,aw,[],⟨eL V2 _,(HD1.fp LV2).fp (gl _ _),⟨Rw.nil,Rw.nil,⟨D,λj h=>absurd h sm⟩,Rw.nil,Rw.nil⟩,om,om,sm⟩⟩,(HK1.bl LV2).bl (gl _ _),hz⟩
theorem YO{p:Nat}(h:eF w p b (kJ ld)):Calls prog 30 #[ptr p] w λe w'=>∃ aq s,e= .returned (.tuple #[ptr aq,av])/\Bk w' aq 96 #[ptr s]/\SX w' (s+1) s p b (jY (kJ ld) (SgM.fS ⟨114,0⟩)).1 ⟨114,0⟩ St.zero 0 0/\KF [p,b] w w'/\w.heap.size<=s/\w.heap.size<=aq:=by
 have OP:=H (VZ h);clear h
 go_enter func30,ntmps30
 go_upto_region 2 with(go_at_call 42;refine OP.mono ?_;rintro e w1 ⟨s,rfl,hs1,hk1,hz1⟩)
 obtain⟨HS1,HK1,HZ1⟩:=gi hs1 hk1 hz1
 go_wp2_with fail
 go_ret2
 exact⟨w1.heap.size,s,D,eL w1 _,HS1.bl (gl _ _),HK1.bl (gl _ _),HZ1,HK1.size⟩
theorem YM (ld:Int)(w):Calls prog 13 #[I J ld] w λe w'=>∃ aq s p b,e= .returned (ptr aq)/\Bk w' aq 96 #[ptr s]/\SX w' (s+1) s p b (jY (kJ ld) (SgM.fS ⟨114,0⟩)).1 ⟨114,0⟩ St.zero 0 0/\Bl w w'/\w.heap.size<=s/\w.heap.size<=p/\w.heap.size<=b/\w.heap.size<=aq:=by
 obtain⟨NW,LO⟩:=eN (Ds.WK ld w) (λW p b (h:eF W p b (kJ ld))=>YO h)
 go_enter func13,ntmps13
 go_upto_region 2 with(first | (go_at_call 31;refine NW.mono ?_;rintro e w1 ⟨p,b,rfl,hp,hb,hd,hbl⟩) | (go_at_call 30;refine(LO _ p b hd).mono ?_;rintro e w2 ⟨aq,s,rfl,hD,hs,hk,hz1,hz2⟩))
 have ah:=H (aJ hD (aJ hs (aJ hk (aJ hz1 (aJ hz2 (aJ hp (aJ hb hbl)))))));clear hD hs hk hp hbl hd
 go_wp2_with fail
 go_ret;obtain⟨hD,hs,hk,hz1,hz2,hp,hb,hbl⟩:=ah.out;exact⟨aq,s,p,b,D,hD,hs,hk.yN hbl eC,aH hbl.size hz1,hp,hb,aH hbl.size hz2⟩
theorem Oj:SgM.sw ⟨114,0⟩=Q:=dk
theorem ld0 (ld:Int):LD 1 (min (max ld 0) 1073741824) ⟨114,0⟩ 0 (jY (kJ ld) (SgM.fS ⟨114,0⟩)).1:=by
 have hw:Ds.uI (kJ ld).L (SgM.fS ⟨114,0⟩)=0:=by
  unfold Ds.uI;rw[D8 Oj,show gG (kJ ld).L (SgM.fS ⟨114,0⟩)=E from rfl];rfl
 have e:jY (kJ ld) (SgM.fS ⟨114,0⟩)=({tick (kJ ld) with L:=ja (kJ ld).L ⟨SgM.fS ⟨114,0⟩,Ds.lE,Ds.lE⟩},0):=by
  unfold jY Ds.zK;rw[hw];rfl
 have hi:=(Ds.Iv.new ld).jY (SgM.fS ⟨114,0⟩);rw[e] at hi ⊢;refine⟨hi,D,AJ D,D,⟨_,kK (Ds.Iv.new ld).oB _⟩,?_,Oj,?_⟩
 ·intro k n hk hn';show gG (ja (kJ ld).L _) _=E;rw[jW (Ds.Iv.new ld).oB _ (Oy hk Oj (λe=>by have e2:n=0:=aP Sg.n e;have h2:(0:Int)<n:=hn';omega))];rfl
 ·show(0:Int)<=_;simp
theorem U7 (ld:Int)(w):Calls prog 13 #[I J ld] w λe w'=>∃ aq s p b,e= .returned (ptr aq)/\DQ w' (s+1) aq s p b St.zero 0 0 1 0 0 0 (min (max ld 0) 1073741824)/\Bl w w'/\w.heap.size<=s/\w.heap.size<=p/\w.heap.size<=b/\w.heap.size<=aq:=
 (YM ld w).mono λe w' ⟨aq,s,p,b,he,hD,hs,hb,h1,h2,h3,h4⟩=>⟨aq,s,p,b,he,⟨hD,⟨_,_,hs,ld0 ld,Int.le_refl _⟩,⟨Int.le_refl _,dc⟩,ik.zero⟩,hb,h1,h2,h3,h4⟩
def sf (s:St)(w0 u:ay)(now a:Int)(b:Bool)(c:Int):Prop:=
 (nF s ⟨w0,u,0,1099511627776,now⟩≠0/\a=0/\b=z/\c=nF s ⟨w0,u,0,1099511627776,now⟩)∨
 (nF s ⟨w0,u,0,1099511627776,now⟩=0/\c=0/\∃ O,O.Perm (SS s u now)/\a=(mn (jT O (fq (gH s ⟨w0,u,0,1099511627776,now⟩)))).1/\b=(mn (jT O (fq (gH s ⟨w0,u,0,1099511627776,now⟩)))).2)
theorem TY (s)(v)(b:Nat)(w0 u:ay)(now:Int)(w)(h:iW w b v s)(hn:pY 60 s)(ho:Ord il.u bf s.us)(hw:w0.size<=1000000)(hu:u.size<=1000000):
 Calls prog 87 #[v,mj w0 u,I J now] w λe w'=>∃ a0 b0 c0,e= .returned (.tuple #[I J a0,.bool b0,I J c0])/\sf s w0 u now a0 b0 c0/\Bl w w':=by
 refine(Ln s v b w0 u now w h hn ho hw hu).mono ?_;rintro e w' (⟨h1,rfl,hb⟩ | ⟨h1,O,hO,rfl,hb⟩)
 ·exact⟨_,_,_,D,.inl ⟨h1,D,D,D⟩,hb⟩
 ·exact⟨_,_,_,D,.inr ⟨h1,D,O,hO,D,D⟩,hb⟩
theorem YX{p:Nat}{S}{g}{x}{ul}(h:SA w B s p b S g x ev nt na vo vu vs vt ul)(hD:Bk w aq 96 #[ptr s])(hN:UI x)(hf:pY 60 x)(ho:Ord il.u bf x.us)(x0 u:ay)(t:Int)(hx:x0.size<=1000000)(hu:u.size<=1000000):
 Calls prog 58 #[ptr aq,.agg #[I J 5,av,av,ax,ax,av,av,ax,C x0,C u,av,av,I J t,av,ax]] w λe w'=>∃ a0 b0 c0,e= .returned (.agg #[I J c0,aw,ax,I J a0,.bool b0])/\sf x x0 u t a0 b0 c0/\Bl w w':=by
 obtain⟨A,V0,hA,hV0,BA,BY,HB,HAw,SV⟩:=lj w #[I J 5,av,av,ax,ax,av,av,ax,C x0,C u,av,av,I J t,av,ax] 121 #[av,aw,ax,av,.bool z] 86;obtain⟨a0,a1,a2,a3,a4,a5,a6,a7,a8,a9,sG,uB,a12,sQ,sP⟩:=mE BA;obtain⟨y0,y1,y2,y3,y4⟩:=wY BY;have HY:=H BY;have hY:w.heap.size<=A+1:=by rw[HAw.out];omega
 have HYle:=H hY;have d0:∀ W,Bl V0 W->W.cell? ⟨aq,0,E⟩=G (ptr s):=Bk.all (HB.bl hD) 0 D;have ST:=H (λW (hW:Bl V0 W)=>so ((h.bl HB).bl hW) hN);have GL:=λW v b (hv:iW W b v x)=>TY x v b x0 u t W hv hf ho hx hu;unfold mj at GL;replace GL:=H GL;clear h hD hN ho hx hu hY
 go_enter func58,ntmps58
 go_upto_region 1 with fail
 rw[<-hV0,<-hA];clear hV0 hA;refine jI (T:=Bl V0) (S:=Bl V0) [] (Bl.dr Bl.eH) (Bl.dr Bl.eH) λhT0 hS0=>?_
 try dsimp only at hT0 hS0
 refine aaa [0,1,2,3] ?_;refine td 4 ?_;refine aaa [6,7] ?_;refine td 8 ?_;refine aaa [9,10] ?_;refine td 11 ?_;refine eK 5 λKQ hK=>?_;go_simp
 (go_at_call 85;refine aaj (ST _ hS0) λv1 w1 hv1 hb1=>?_)
 have hT1:=hS0.ca hb1;have hS1:=hT1;refine kq hK ?_;refine eK 12 λKQ hK=>?_;go_simp
 (go_at_call 87;refine(GL _ _ _ hv1).mono ?_;rintro e w2 ⟨a0,b0,c0,rfl,hq,hb2⟩)
 have hT2:=hS1.ca hb2;have hS2:=hT2;refine kq hK ?_;refine aaa [13,14,15,16,17,18,19] ?_;refine iU ?_;have hL:=hS2;obtain⟨HL,HQ⟩:=eN (show Bl V0 w2 from hL) hq;have K:=hL.bl HY;obtain⟨y0,y1,y2,y3,y4⟩:=Bk.f5 K;have yf:=λj=>Bk.fr K j;clear hL hq
 go_wp2_with fail
 exact aa1 (eS (p:=4) D _ _ _ _ _ _ _ D (Bk.s5 (HL.bl HY) _ _ _ _ _) underlying86 D pg) D ⟨_,_,_,D,HQ,((KF.of (F:=[]) (HB.ca HL)).Lq HYle _ _ _ _ _).MQ sm⟩
theorem aak (x0 u:ay)(t:Int){p:Nat}{S}{g}{x}{ul}(h:SA w B s p b S g x ev nt na vo vu vs vt ul)(hD:Bk w aq 96 #[ptr s])(hdn:S.down=z)(ar:Int->Bool->Int->Prop)(τ:ay)
 (hrd:∀ W,Bl w W->aai 55 #[C τ] W (.tuple #[.agg #[I J 5,av,av,ax,ax,av,av,ax,C x0,C u,av,av,I J t,av,ax],av]))
 (hds:∀ W,Bl w W->Calls prog 58 #[ptr aq,.agg #[I J 5,av,av,ax,ax,av,av,ax,C x0,C u,av,av,I J t,av,ax]] W λe w'=>∃ a0 b0 c0,e= .returned (.agg #[I J c0,aw,ax,I J a0,.bool b0])/\ar a0 b0 c0/\Bl W w'):
 Calls prog 37 #[ptr aq,C τ] w λe w'=>∃ a0 b0 c0,e= .returned (.agg #[I J c0,aw,ax,I J a0,.bool b0])/\ar a0 b0 c0/\Bl w w':=by
 obtain⟨HP,HD,HRD,HDS⟩:=kB h hD hrd hds;have HDN:=H hdn;obtain⟨Y,V0,hY,hV0,BY,HB,HYw,SV⟩:=gC w #[av,aw,ax,av,.bool z] 86;obtain⟨y0,y1,y2,y3,y4⟩:=wY BY;obtain⟨HY,HYle⟩:=eN BY (show w.heap.size<=Y by rw[HYw.out];exact aB _);clear h hD hrd hds hdn
 go_enter func37,ntmps37
 go_upto_region 1 with fail
 rw[<-hV0,<-hY];clear hV0 hY
 go_upto_region 2 with(go_at_call 55;refine qx (HRD _ HB) λw1 hb1=>?_)
 obtain⟨V2,X,hV2,hX,BX,LV2⟩:=iC w1 #[I J 5,av,av,ax,ax,av,av,ax,C x0,C u,av,av,I J t,av,ax] 121;rw[<-hV2,<-hX];clear hV2;replace hX:=H hX;obtain⟨x0,x1,x2,x3,x4,x5,x6,x7,x8,x9,x10,x11,x12,x13,x14⟩:=mE BX;have H2:=H (show Bl V0 V2 from hb1.ca LV2);have HW2:=H (HB.ca H2);have HP2:=H (HP.bl HW2);have d0:=Bk.all (HW2.bl HD) 0 D;have hb2:=br V2;obtain⟨DI,DW,DS⟩:=gi (po HP2) (show Calls prog 56 #[ptr p] V2 λe w'=>e= .returned (.bool z)/\V2=w' from by have:=nj HP2.dk;rwa[HDN.out] at this) (HDS V2 HW2)
 go_upto_region 9 with(first | (go_at_call 40;refine QS DI ?_) | (go_at_call 56;refine QS DW ?_))
 go_wp2_with (go_at_call 58;refine DS.mono ?_;rintro e w9 ⟨a0,b0,c0,rfl,hq9,hb9⟩;obtain⟨HQ9,HB9,HK⟩:=gi hq9 hb9 (hb9.bl (H2.bl HY));obtain⟨z0,z1,z2,z3,z4⟩:=Bk.f5 HK;have zf:=λj=>Bk.fr HK j;clear hq9 hb9)
 exact aa1 (eS (p:=4) D _ _ _ _ _ _ _ D (Bk.s5 HK _ _ _ _ _) underlying86 D pg) D ⟨_,_,_,D,HQ9,((KF.of (F:=[]) (HW2.ca HB9)).Lq HYle _ _ _ _ _).MQ sm⟩
def aaD (s:St)(q:Qn)(b:Nat)(w:World)(v:Value)(c:Int):Prop:=
 (c≠0/\c=nF s q/\v= Z E 0 0)∨(nF s q=0/\c=0/\∃ O,O.Perm (SS s q.u q.now)/\Rw eP.cs 112 4 w b v (jT O (fq (gH s q))))
def Fx (s:St)(q:Qn)(m:Int)(L:List eP)(nx:ay)(c:Int):Prop:=
 (c≠0/\c=nF s q/\L=[]/\nx=⟨#[]⟩)∨(nF s q=0/\∃ O,O.Perm (SS s q.u q.now)/\L=(IB (jT O (fq (gH s q))) m).1/\nx=(IB (jT O (fq (gH s q))) m).2.1/\c=(IB (jT O (fq (gH s q))) m).2.2)
theorem PH (s)(v)(b:Nat)(q:Qn)(w)(h:iW w b v s)(hn:pY 60 s)(ho:Ord il.u bf s.us)(hw:q.w.size<=1000000)(hu:q.u.size<=1000000):
 Calls prog 84 #[v,q.v] w λe w'=>∃ v' c0,e= .returned (.tuple #[v',I J c0])/\aaD s q w.heap.size w' v' c0/\Bl w w':=by
 refine(zD s v b q w h hn ho hw hu).mono ?_;rintro e w' (⟨h1,rfl,hb⟩ | ⟨h1,v',O,rfl,hO,hr,hb⟩)
 ·exact⟨_,_,D,.inl ⟨h1,D,D⟩,hb⟩
 ·exact⟨_,_,D,.inr ⟨h1,D,O,hO,hr⟩,hb⟩
theorem Uc{p:Nat}{S}{g}{x}{ul}(h:SA w B s p b S g x ev nt na vo vu vs vt ul)(hD:Bk w aq 96 #[ptr s])(hN:UI x)(hf:pY 60 x)(ho:Ord il.u bf x.us)(hg:Gb w)(x0 u:ay)(a b0 t m:Int)(hx:x0.size<=1000000)(hu:u.size<=1000000)(hm:1<=m/\m<=100)(hlen:∀ O,O.Perm (SS x u t)->(jT O (fq (gH x ⟨x0,u,a,b0,t⟩))).length<=10000):
 Calls prog 57 #[ptr aq,.agg #[I J 4,av,av,ax,ax,av,av,ax,C x0,C u,I J a,I J b0,I J t,I J m,ax]] w λe w'=>∃ v L nx c0,e= .returned (.agg #[I J c0,v,C nx,av,.bool z])/\Fx x ⟨x0,u,a,b0,t⟩ m L nx c0/\Rw eP.cs 112 4 w' w.heap.size v L/\Bl w w':=by
 obtain⟨A,V0,hA,hV0,BA,BY,HB,HAw,SV⟩:=lj w #[I J 4,av,av,ax,ax,av,av,ax,C x0,C u,I J a,I J b0,I J t,I J m,ax] 121 #[av,aw,ax,av,.bool z] 86;obtain⟨a0,a1,a2,a3,a4,a5,a6,a7,a8,a9,sG,uB,a12,sQ,sP⟩:=mE BA;obtain⟨y0,y1,y2,y3,y4⟩:=wY BY;obtain⟨HY,HA,HYle⟩:=gi BY BA (show w.heap.size<=A+1 by rw[HAw.out];omega);have d0:∀ W,Bl V0 W->W.cell? ⟨aq,0,E⟩=G (ptr s):=Bk.all (HB.bl hD) 0 D;have ST:=H (λW (hW:Bl V0 W)=>so ((h.bl HB).bl hW) hN);have GR:=λW v b (hv:iW W b v x)=>PH x v b ⟨x0,u,a,b0,t⟩ W hv hf ho hx hu;unfold Qn.v at GR;replace GR:=H GR;obtain⟨HLEN,HM,HGB⟩:=gi hlen hm hg;clear h hD hN hf ho hx hu BA BY y0 y1 y2 y3 y4 hlen hm hg
 go_enter func57,ntmps57
 go_upto_region 1 with fail
 rw[<-hV0,<-hA];clear hV0 hA;refine jI (T:=Bl V0) (S:=Bl V0) [] (Bl.dr Bl.eH) (Bl.dr Bl.eH) λhT0 hS0=>?_
 try dsimp only at hT0 hS0
 refine aaa [0,1,2,3] ?_;refine td 4 ?_;refine qd 6 ?_;refine td 7 ?_;refine eK 5 λKQ hK=>?_;go_simp
 (go_at_call 85;refine aaj (ST _ hS0) λv1 w1 hv1 hb1=>?_)
 have hT1:=hS0.ca hb1;have hS1:=hT1;refine kq hK ?_;clear hK KQ;refine eK 8 λKQ hK=>?_;go_simp
 (go_at_call 84;refine(GR _ _ _ hv1).mono ?_;rintro e w2 ⟨v2,c0,rfl,hq,hb2⟩)
 have hT2:=hS1.ca hb2;have hS2:=hT2;refine kq hK ?_;clear hK KQ;refine aaa [9,10,11,12,13] ?_;refine iU ?_;have hL:=hS2;have HL:=H (show Bl V0 w2 from hL);have hz:w.heap.size<=w2.heap.size:=(HB.ca hL).size;have K:=hL.bl HY;obtain⟨HQ,HZ⟩:=eN hq hz;clear hq hb1 hb2 hv1 hz hT0 hS0 hT1 hS1 hT2 hS2;rcases HQ.out with⟨h1,h2,rfl⟩ | ⟨h1,rfl,O,hO,hr⟩
 ·obtain⟨y0,y1,y2,y3,y4⟩:=Bk.f5 K;have yf:=λj=>Bk.fr K j;have H2:=H h2;clear K h2
  go_wp2_with fail
  exact aa1 (eS (p:=4) D _ _ _ _ _ _ _ D (Bk.s5 (HL.bl HY) _ _ _ _ _) underlying86 D pg) D ⟨_,[],_,_,D,.inl ⟨h1,H2,D,D⟩,Rw.nil,((KF.of (F:=[]) (HB.ca HL)).Lq HYle _ _ _ _ _).MQ sm⟩
 ·obtain⟨OF,HO,H1⟩:=gi (Ks _ m v2 _ w2 (HGB.below (HB.ca HL) (aB _)) hr (HLEN O hO) fT fT) hO h1;clear K hO h1 hr
  go_wp2_with (go_at_call 86;refine aaj OF λv3 w3 hr3 hb3=>?_;obtain⟨HB3,HR3⟩:=eN hb3 hr3;have K3:=hb3.bl (HL.bl HY);have HK3:=H K3;obtain⟨y0,y1,y2,y3,y4⟩:=Bk.f5 K3;have yf:=λj=>Bk.fr HK3 j;clear hr3 K3;obtain⟨A9,c9,rfl,_,_⟩:=HR3.form)
  exact aa1 (eS (p:=4) D _ _ _ _ _ _ _ D (Bk.s5 HK3 _ _ _ _ _) underlying86 D pg) D ⟨_,_,_,_,D,.inr ⟨H1,O,HO,D,D,D⟩,fa (((((HR3.fw HK3 dc 0).fw (Bk.put HK3 0 _) dc 1).fw (Bk.put (Bk.put HK3 0 _) 1 _) dc 2).fw (Bk.put (Bk.put (Bk.put HK3 0 _) 1 _) 2 _) dc 3).fw (Bk.put (Bk.put (Bk.put (Bk.put HK3 0 _) 1 _) 2 _) 3 _) dc 4) HZ,((KF.of (F:=[]) ((HB.ca HL).ca HB3)).Lq HYle _ _ _ _ _).MQ sm⟩
theorem aal (x0 u:ay)(a b0 t m:Int){p:Nat}{S}{g}{x}{ul}(h:SA w B s p b S g x ev nt na vo vu vs vt ul)(hD:Bk w aq 96 #[ptr s])(hdn:S.down=z)(ar:List eP->ay->Int->Prop)(τ:ay)
 (hrd:∀ W,Bl w W->aai 55 #[C τ] W (.tuple #[.agg #[I J 4,av,av,ax,ax,av,av,ax,C x0,C u,I J a,I J b0,I J t,I J m,ax],av]))
 (hds:∀ W,Bl w W->Calls prog 57 #[ptr aq,.agg #[I J 4,av,av,ax,ax,av,av,ax,C x0,C u,I J a,I J b0,I J t,I J m,ax]] W λe w'=>∃ v L nx c0,e= .returned (.agg #[I J c0,v,C nx,av,.bool z])/\ar L nx c0/\Rw eP.cs 112 4 w' W.heap.size v L/\Bl W w'):
 Calls prog 37 #[ptr aq,C τ] w λe w'=>∃ v L nx c0,e= .returned (.agg #[I J c0,v,C nx,av,.bool z])/\ar L nx c0/\Rw eP.cs 112 4 w' w.heap.size v L/\Bl w w':=by
 obtain⟨HP,HD,HRD,HDS⟩:=kB h hD hrd hds;have HDN:=H hdn;obtain⟨Y,V0,hY,hV0,BY,HB,HYw,SV⟩:=gC w #[av,aw,ax,av,.bool z] 86;obtain⟨y0,y1,y2,y3,y4⟩:=wY BY;obtain⟨HY,HYle⟩:=eN BY (show w.heap.size<=Y by rw[HYw.out];exact aB _);clear h hD hrd hds hdn
 go_enter func37,ntmps37
 go_upto_region 1 with fail
 rw[<-hV0,<-hY];clear hV0 hY
 go_upto_region 2 with(go_at_call 55;refine qx (HRD _ HB) λw1 hb1=>?_)
 obtain⟨V2,X,hV2,hX,BX,LV2⟩:=iC w1 #[I J 4,av,av,ax,ax,av,av,ax,C x0,C u,I J a,I J b0,I J t,I J m,ax] 121;rw[<-hV2,<-hX];clear hV2;replace hX:=H hX;obtain⟨x0,x1,x2,x3,x4,x5,x6,x7,x8,x9,x10,x11,x12,x13,x14⟩:=mE BX;have H2:=H (show Bl V0 V2 from hb1.ca LV2);have HW2:=H (HB.ca H2);have HP2:=H (HP.bl HW2);have d0:=Bk.all (HW2.bl HD) 0 D;have hb2:=br V2;obtain⟨DI,DW,DS⟩:=gi (po HP2) (show Calls prog 56 #[ptr p] V2 λe w'=>e= .returned (.bool z)/\V2=w' from by have:=nj HP2.dk;rwa[HDN.out] at this) (HDS V2 HW2)
 go_upto_region 7 with(first | (go_at_call 40;refine QS DI ?_) | (go_at_call 56;refine QS DW ?_))
 go_wp2_with (go_at_call 57;refine DS.mono ?_;rintro e w9 ⟨v9,L9,nx9,c9,rfl,hq9,hr9,hb9⟩;obtain⟨HQ9,HR9,HB9,HK⟩:=kB hq9 hr9 hb9 (hb9.bl (H2.bl HY));obtain⟨z0,z1,z2,z3,z4⟩:=Bk.f5 HK;have zf:=λj=>Bk.fr HK j;clear hq9 hb9 hr9;obtain⟨A9,k9,rfl,_,_⟩:=HR9.form)
 exact aa1 (eS (p:=4) D _ _ _ _ _ _ _ D (Bk.s5 HK _ _ _ _ _) underlying86 D pg) D ⟨_,_,_,_,D,HQ9,fa (((((HR9.fw HK dc 0).fw (Bk.put HK 0 _) dc 1).fw (Bk.put (Bk.put HK 0 _) 1 _) dc 2).fw (Bk.put (Bk.put (Bk.put HK 0 _) 1 _) 2 _) dc 3).fw (Bk.put (Bk.put (Bk.put (Bk.put HK 0 _) 1 _) 2 _) 3 _) dc 4) HW2.size,((KF.of (F:=[]) (HW2.ca HB9)).Lq HYle _ _ _ _ _).MQ sm⟩
theorem zZ(ar:List eP->ay->Int->Int->Bool->Prop)(hq:∀ L nx c a b,ar L nx c a b->nx≠gE/\nx.size<=100000/\L.length<=1000)(hO:Gb O)(hOw:Bl O w)
 (h:Calls prog 37 #[ptr aq,C τ] w λe w'=>∃ v L nx c a b,e= .returned (.agg #[I J c,v,C nx,I J a,.bool b])/\ar L nx c a b/\Rw eP.cs 112 4 w' 0 v L/\Bl w w'):
 Calls prog 17 #[ptr aq,C τ] w λe w'=>∃ L nx c a b,e= .returned (C (oG c a b nx L))/\ar L nx c a b/\Bl w w':=by
 obtain⟨HA,TL⟩:=eN h (λL nx c a b v W (h1:ar L nx c a b) (hr:Rw eP.cs 112 4 W 0 v L) (hk:Bl w W)=>C6 c a b nx L v 0 W hr (hO.below (hOw.ca hk) (aB _)) (hq _ _ _ _ _ h1).2.2 (hq _ _ _ _ _ h1).1 (hq _ _ _ _ _ h1).2.1);clear h hO hOw hq
 go_enter func17,ntmps17
 go_wp2_with (first | (go_at_call 37;refine HA.mono ?_;rintro e w1 ⟨v1,L,nx,c,a,b,rfl,hq1,hr1,hk1⟩) | (go_at_call 36;refine qx (TL _ _ _ _ _ _ _ hq1 hr1 hk1) λw2 hb2=>?_))
 go_ret;exact⟨L,nx,c,a,b,D,hq1,hk1.ca hb2⟩
theorem Pd (s):lr s≠gE:=by
 unfold lr
 split
 ·decide
 ·intro e;have h:=aP ByteArray.size e;rw[iR,show gE.size=1 from rfl] at h;simp[tZ,Lib.join] at h;omega
theorem SQ (L)(m:Int):(IB L m).2.1≠gE:=by
 unfold IB
 split
 ·exact(by decide:bs []≠gE)
 ·split
  ·exact(by decide:bs []≠gE)
  ·exact Pd _
theorem OM (a:fm)(N)(t:Int)(h:fY (wB [a] N) t=Q):fY N t=Q:=by
 rw[iY] at h ⊢;obtain⟨s,hs,h1,h2⟩:=h;simp only[wB,bh,List.flatMap_nil,aY,bI] at hs;obtain⟨y,hy,rfl⟩:=hs;unfold Ml at h1 h2;simp only at h1 h2;exact⟨y,hy,om,om⟩
theorem MW (s)(q)(t:Int)(h:fY (fq (gH s q)) t=Q):fY (kP s.sb q.w q.u) t=Q:=by
 rw[(lF _).2] at h;unfold gH at h;rw[(lF _).2] at h;have:=OM _ _ _ h
 rwa[(lF _).2] at this
structure Mq (s s':St)(w u:ay)(now:Int):Prop where
 TP:s.now=s'.now
 sb:s.sb=s'.sb
 fb:s.fb=s'.fb
 cut:∀ (T:List fm) (La Lb:List eP),Sep T->(∀ t,fY T t=Q->fY (kP s.sb w u) t=Q)->La.Perm (SS s u now)->Lb.Perm (SS s' u now)->jT La T=jT Lb T
section
variable {s s':St}{w u:ay}{now:Int}
theorem Mq.why (h:Mq s s' w u now)(q):nF s q=nF s' q:=by unfold nF;rw[h.TP]
theorem Mq.times (h:Mq s s' w u now)(q):gH s q=gH s' q:=by unfold gH;rw[h.sb,h.fb]
theorem Mq.YZ (h:Mq s s' w u now){a b:Int}{O O':List eP}(h1:O.Perm (SS s u now))(h2:O'.Perm (SS s' u now)):jT O (fq (gH s ⟨w,u,a,b,now⟩))=jT O' (fq (gH s' ⟨w,u,a,b,now⟩)):=by
 rw[<-h.times ⟨w,u,a,b,now⟩];exact h.cut _ _ _ (lF _).1 (MW s ⟨w,u,a,b,now⟩) h1 h2
theorem Mq.rng (h:Mq s s' w u now){a b m c:Int}{L L'}{nx nx'}(h1:Fx s ⟨w,u,a,b,now⟩ m L nx c)(h2:Fx s' ⟨w,u,a,b,now⟩ m L' nx' c'):L=L'/\nx=nx'/\c=c':=by
 unfold Fx at h1 h2;rw[<-h.why] at h2;rcases h1 with⟨a1,a2,rfl,rfl⟩ | ⟨a1,O,hO,rfl,rfl,rfl⟩
 ·rcases h2 with⟨b1,b2,rfl,rfl⟩ | ⟨b1,_⟩
  ·exact⟨D,D,a2.trans b2.symm⟩
  ·exact absurd (a2.trans b1) a1
 ·rcases h2 with⟨b1,b2,_⟩ | ⟨b1,O',hO',rfl,rfl,rfl⟩
  ·exact absurd (b2.trans a1) b1
  ·rw[h.YZ hO hO'];exact⟨D,D,D⟩
theorem Mq.last (h:Mq s s' w u now){a a' c:Int}{b b':Bool}(h1:sf s w u now a b c)(h2:sf s' w u now a' b' c'):a=a'/\b=b'/\c=c':=by
 unfold sf at h1 h2;rw[<-h.why] at h2;rcases h1 with⟨a1,rfl,rfl,rfl⟩ | ⟨a1,rfl,O,hO,rfl,rfl⟩
 ·rcases h2 with⟨b1,rfl,rfl,rfl⟩ | ⟨b1,_⟩
  ·exact⟨D,D,D⟩
  ·exact absurd b1 a1
 ·rcases h2 with⟨b1,_⟩ | ⟨b1,rfl,O',hO',rfl,rfl⟩
  ·exact absurd a1 b1
  ·rw[h.YZ hO hO'];exact⟨D,D,D⟩
end
theorem JQ (s)(q)(hn:pY 60 s):(fq (gH s q)).length<=60:=by
 have h0:=lG (gH s q);unfold gH at h0 ⊢;have h1:=lG (wB [⟨max q.a s.fb,min q.b 1099511627776⟩] (fq (kP s.sb q.w q.u)));have h2:=lG (kP s.sb q.w q.u);have h3:=qv s.sb q.w q.u;have h4:=hn.ns;have h5:(wB [⟨max q.a s.fb,min q.b 1099511627776⟩] (fq (kP s.sb q.w q.u))).length=(fq (kP s.sb q.w q.u)).length:=by simp[wB]
 omega
theorem Qu (s)(q:Qn)(hn:pY 60 s)(O:List eP)(hO:O.Perm (SS s q.u q.now)):(jT O (fq (gH s q))).length<=10000:=by
 have h1:=JQ s q hn;have h2:=Q6 s q.u q.now hn;have h3:=hO.length_eq;have h4:=wv (fq (gH s q)) O;have h5:(jT O (fq (gH s q))).length=(oJ O (fq (gH s q))).length:=by unfold jT;exact(mr _).length_eq
 have h6:O.length*(fq (gH s q)).length<=120*60:=ch om h1;omega
theorem Wr (L):(IB L 100).1.length<=100:=by
 unfold IB;have:Cw L.length 100<=100:=by unfold Cw;omega
 split
 ·simp
 ·split
  ·rename_i h1 h2;simp only;omega
  ·simp only[aK];omega
theorem SN (L):(IB L 100).2.1.size<=1000:=by
 unfold IB
 split
 ·exact(by decide:(bs []).size<=1000)
 ·split
  ·exact(by decide:(bs []).size<=1000)
  ·exact Pc _
theorem uh {x}(h:pY 60 x):UI x:=⟨by have:=h.no;omega,by have:=h.nu;omega,by have:=h.ns;omega,by have:=h.nt;omega,λy hy=>by have:=h.nl y hy;omega⟩
section
variable {w:World}{B s p b aq:Nat}{S:Dk}{g:Sg}{x:St}{ev nt:Int}
theorem I8 (h:SX w B s p b S g x ev nt)(hD:Bk w aq 96 #[ptr s])(hdn:S.down=z)(hf:pY 60 x)(ho:Ord il.u bf x.us)(hg:Gb w)(x0 u)(t:Int)(hx:gD x0=Q)(hu:gD u=Q)(ht:fQ t=Q):
 Calls prog 17 #[ptr aq,C (gR [iz,x0,u,eD t])] w λe w'=>∃ c a bb,e= .returned (C (oG c a bb ⟨#[]⟩ []))/\sf x x0 u t a bb c/\Bl w w':=by
 obtain⟨na,vo,vu,vs,vt,ul,h⟩:=h;have A:=aak x0 u t h hD hdn (sf x x0 u t) (gR [iz,x0,u,eD t]) (λW hW=>abZ x0 u t W hx hu ht (hg.below hW (aB _))) (λW hW=>YX (h.bl hW) (hW.bl hD) (uh hf) hf ho x0 u t abd aaT);have P:=zZ (λL nx c a b=>L=[]/\nx=⟨#[]⟩/\sf x x0 u t a b c) (by rintro L nx c a b ⟨rfl,rfl,_⟩;exact⟨qC,dc,dc⟩) hg Bl.eH (A.mono λe w' ⟨a0,b0,c0,he,hq,hb⟩=>⟨Z E 0 0,[],⟨#[]⟩,c0,a0,b0,he,⟨D,D,hq⟩,Rw.nil,hb⟩);refine P.mono ?_;rintro e w' ⟨L,nx,c,a,b,rfl,⟨rfl,rfl,hq⟩,hb⟩;exact⟨c,a,b,D,hq,hb⟩
theorem Xc (h:SX w B s p b S g x ev nt)(hD:Bk w aq 96 #[ptr s])(hdn:S.down=z)(hf:pY 60 x)(ho:Ord il.u bf x.us)(hg:Gb w)(x0 u)(a b0 t:Int)(hx:gD x0=Q)(hu:gD u=Q)(ha:fQ a=Q)(hb0:fQ b0=Q)(ht:fQ t=Q):
 Calls prog 17 #[ptr aq,C (gR [gI,x0,u,eD a,eD b0,eD t,eD 100,gE])] w λe w'=>∃ L nx c,e= .returned (C (oG c 0 z nx L))/\Fx x ⟨x0,u,a,b0,t⟩ 100 L nx c/\Bl w w':=by
 obtain⟨na,vo,vu,vs,vt,ul,h⟩:=h;have A:=aal x0 u a b0 t 100 h hD hdn (Fx x ⟨x0,u,a,b0,t⟩ 100) (gR [gI,x0,u,eD a,eD b0,eD t,eD 100,gE]) (λW hW=>aca x0 u a b0 t 100 W hx hu ha hb0 ht dc (hg.below hW (aB _)))
  (λW hW=>Uc (h.bl hW) (hW.bl hD) (uh hf) hf ho (hg.below hW (aB _)) x0 u a b0 t 100 abd aaT dc (λO hO=>Qu x ⟨x0,u,a,b0,t⟩ hf O hO))
 have P:=zZ (λL nx c a1 b1=>a1=0/\b1=z/\Fx x ⟨x0,u,a,b0,t⟩ 100 L nx c) (by
  rintro L nx c a1 b1 ⟨rfl,rfl,(⟨_,_,rfl,rfl⟩ | ⟨_,O,_,rfl,rfl,_⟩)⟩
  ·exact⟨qC,dc,dc⟩
  ·exact⟨SQ _ _,aH (SN _) dc,aH (Wr _) dc⟩) hg Bl.eH (A.mono λe w' ⟨v,L,nx,c0,he,hq,hr,hb⟩=>⟨v,L,nx,c0,0,z,he,⟨D,D,hq⟩,fa hr (aD _),hb⟩)
 refine P.mono ?_;rintro e w' ⟨L,nx,c,a1,b1,rfl,⟨rfl,rfl,hq⟩,hb⟩;exact⟨L,nx,c,D,hq,hb⟩
end
section
variable {w:World}{B aq s p b N u m n:Nat}{x:St}{ev nt ld:Int}
theorem DQ.last (h:DQ w B aq s p b x ev nt N u m n ld)(hn:n<=60)(hg:Gb w)(x0 us)(t:Int)(hx:gD x0=Q)(hu:gD us=Q)(ht:fQ t=Q):
 Calls prog 17 #[ptr aq,C (gR [iz,x0,us,eD t])] w λe w'=>∃ c a bb,e= .returned (C (oG c a bb ⟨#[]⟩ []))/\sf x x0 us t a bb c/\Bl w w':=
 let⟨_,_,h1,h2,_⟩:=h.r;I8 h1 h.d h2.down (h.i.f.up hn) h.i.u hg x0 us t hx hu ht
theorem DQ.range (h:DQ w B aq s p b x ev nt N u m n ld)(hn:n<=60)(hg:Gb w)(x0 us)(a b0 t:Int)(hx:gD x0=Q)(hu:gD us=Q)(ha:fQ a=Q)(hb0:fQ b0=Q)(ht:fQ t=Q):
 Calls prog 17 #[ptr aq,C (gR [gI,x0,us,eD a,eD b0,eD t,eD 100,gE])] w λe w'=>∃ L nx c,e= .returned (C (oG c 0 z nx L))/\Fx x ⟨x0,us,a,b0,t⟩ 100 L nx c/\Bl w w':=
 let⟨_,_,h1,h2,_⟩:=h.r;Xc h1 h.d h2.down (h.i.f.up hn) h.i.u hg x0 us a b0 t hx hu ha hb0 ht
end
