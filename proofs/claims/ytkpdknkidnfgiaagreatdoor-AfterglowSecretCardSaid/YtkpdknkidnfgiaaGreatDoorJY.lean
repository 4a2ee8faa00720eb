/- Lemmas for AfterglowSecret: what functions of the program return; no condition. -/
import Derived.Test.YtkpdknkidnfgiaaGreatDoorJX
import Derived.Test.YtkpdknkidnfgiaaGreatDoorJW
set_option maxHeartbeats 0
set_option maxRecDepth 100000
set_option linter.unusedVariables false
open Go.Value renaming int->I,string->C,slice->Z
open Go.IntKind renaming i64->J,u8->U
open Option renaming none->E,some->G
open Bool renaming true->Q,false->z
open Go.Lib renaming hid->H
open Go.Proofs.Tryz
namespace Go.Proofs.YtkpdknkidnfgiaaGreatDoor
theorem qP{p:Prop}(h:p:=by
 obtain⟨n1,n2,n3⟩:=h.ne hY dc dc;exact⟨(aa0 w ⟨Y,i,E⟩ v s (λe=>n1 e.symm)).trans h.fo,Own.fr h.dk n2 n3 i v,⟨h.st.ho.fw hY dc i,h.st.hu.fw hY dc i,h.st.hl.fw hY dc i,h.st.hs.fw hY dc i,h.st.ht.fw hY dc i⟩,h.np,h.nb,by simpa using h.hB⟩):p:=h
theorem aaY{p:Prop}(h:p:=by
 go_wp2_with fail
 go_ret;exact⟨D,Bl.eH⟩):p:=h
variable {τ:ByteArray} {ev ld na nt:Int} {F:List Nat} {xs:List Value} {A B N Y aq b n s sz:Nat} {t:TypeId} {c0 c1 c10 c11 c12 c13 c14 c2 c3 c4 c5 c6 c7 c8 c9 vo vo' vs vs' vt vt' vu vu':Value} {O V W W' w w':World}
namespace Tp
open Go Go.RowKit Go.Lib CrcM FrM SgM
open Ds (Dk eF lg mg jY Iv Bd ptr Kp px kJ)
open Ds.DkM (Fl gG bf)
def xI (S:Dk)(g:Sg):Dk:=(jY (mg S (SgM.fS g)).1 (SgM.fS ⟨115,g.n+1⟩)).1
def full (S:Dk)(g:Sg):Bool:=decide (600<=(px (gG S.L (SgM.fS g))).size)
def gT (S:Dk)(g:Sg)(e:Ev):Dk×Sg:=
 if full S g then((lg (xI S g) (SgM.fS ⟨115,g.n+1⟩) (nz e)).1,⟨115,g.n+1⟩) else((lg S (SgM.fS g) (nz e)).1,g)
theorem wH {P:World->Prop}{o}{aj R an:Prop}(f:P (W.alloc o)->(aj->P (W.alloc o))->R->an)(t:P (W.alloc o))(r:P (W.alloc o)->(W.alloc o).heap[W.heap.size]?=G o->(∀ (n:Nat) (x:Obj),W.heap[n]?=G x->(W.alloc o).heap[n]?=G x)->R):an:=f t (λ_=>t) (r t (eL W o) λ_ _ h=>fK o h)
theorem IY{g}{u:Nat}{S}(h:LD N ld g u S)(hn:g.n<=1000000):LD (N+2) ld ⟨115,g.n+1⟩ u (xI S g):=by
 have hg0:=(jJ.1 h.ok).2.1;have ho:SgM.sw ⟨115,g.n+1⟩=Q:=jJ.2 ⟨(show SgM.Kr 115=Q by decide),eJ,eJ⟩;exact(WX (Tz h).2 ho (show g.n<g.n+1 by omega)).2
theorem WW{g}{u:Nat}{S}(h:LD N ld g u S)(hn:g.n<=1000000)(e)(hr:(u:Int)+((nz e).size:Nat)<=ld):LD (N+3) ld (gT S g e).2 (u+(nz e).size) (gT S g e).1/\(gT S g e).2.n<=g.n+1:=by
 unfold gT
 split
 ·exact⟨(GM (IY h hn) _ hr).2,Int.le_refl _⟩
 ·obtain⟨_,k⟩:=GM h (nz e) hr;exact⟨⟨k.iv.mono om,k.ld,k.jL,k.down,k.has,k.no,k.ok,k.used⟩,eJ⟩
theorem SA.Yl{p:Nat}{S}{g}{x x'}{ul ul'}(h:SA w B s p b S g x ev nt na vo vu vs vt ul)(hr:oD w B vo' vu' vs' vt' x' ul'):
 SA (kS w s (I J x'.now) (I J x'.fb) vo' vu' vs' vt') B s p b S g x' ev nt na vo' vu' vs' vt' ul':=
 ⟨Bk.set (Bk.set (Bk.set (Bk.set (Bk.set (Bk.set h.fo 0 _) 1 _) 2 _) 3 _) 4 _) 5 _,Own.fr (Own.fr (Own.fr (Own.fr (Own.fr (Own.fr h.dk h.np h.nb 0 _) h.np h.nb 1 _) h.np h.nb 2 _) h.np h.nb 3 _) h.np h.nb 4 _) h.np h.nb 5 _,
  (mO (mO (mO (mO (mO (mO hr h.fo 0 _) (Bk.set h.fo 0 (I J x'.now)) 1 _) (Bk.set (Bk.set h.fo 0 (I J x'.now)) 1 (I J x'.fb)) 2 _) (Bk.set (Bk.set (Bk.set h.fo 0 (I J x'.now)) 1 (I J x'.fb)) 2 vo') 3 _) (Bk.set (Bk.set (Bk.set (Bk.set h.fo 0 (I J x'.now)) 1 (I J x'.fb)) 2 vo') 3 vu') 4 _) (Bk.set (Bk.set (Bk.set (Bk.set (Bk.set h.fo 0 (I J x'.now)) 1 (I J x'.fb)) 2 vo') 3 vu') 4 vs') 5 _),h.np,h.nb,by simpa using h.hB⟩
theorem SA.Yo{p:Nat}{S}{g}{x}{ul}(h:SA w B s p b S g x ev nt na vo vu vs vt ul)(n:Int):SA (w.setCell ⟨s,10,E⟩ (I J n)) B s p b S g x ev n na vo vu vs vt ul:=
 ⟨Bk.set h.fo 10 _,Own.fr h.dk h.np h.nb 10 _,mO h.st h.fo 10 _,h.np,h.nb,by simpa using h.hB⟩
def SX (w:World)(B s p b:Nat)(S:Dk)(g:Sg)(x:St)(ev nt:Int):Prop:=∃ na vo vu vs vt ul,SA w B s p b S g x ev nt na vo vu vs vt ul
theorem Xo{p:Nat}{S}{g}{x x'}{ul}(h:SA w B s p b S g x ev nt na vo vu vs vt ul){u:Nat}(hl:LD N ld g u S)(hN:N<=1000000)(hn:g.n<=999999)(hnt:0<=nt/\nt<=1000000)(hO:Gb O)(hOw:Bl O w)(hOF:∀ q∈[s,p,b],O.heap.size<=q)(e)(he:fL e=Q)(hst:ft bf fL x e=G x')(hf:pY 60 x)(hu:Ord il.u bf x.us)(htb:Ord gb.u bf x.tb)(hr:(u:Int)+((nz e).size:Nat)<=ld):
 Calls prog 88 #[ptr s,e.v] w λr w'=>r= .returned av/\SX w' B s p b (gT S g e).1 (gT S g e).2 x' ev (nt+1)/\KF [s,p,b] w w':=by
 have hg:Gb w:=hO.below hOw (aB _);obtain⟨zu,zo⟩:=jC he;have AP0:=λW (hW:Bl w W)=>Ak x x' (jd x vo vu vs vt) B e W ⟨vo,vu,vs,vt,ul,D,h.st.bl hW⟩ hf hu htb om om hst;unfold ApP at AP0;have PK0:=λW g' (hW:Gb W) hB=>Kn e he W hW g' hB;obtain⟨⟨C1,n1,d1,rfl⟩,⟨C2,n2,d2,rfl⟩,⟨C3,n3,d3,rfl⟩,C4,n4,d4,rfl⟩:=h.st.nr;obtain⟨tx,htx⟩:=fe (nz e);have hts:tx.size<=418:=by rw[htx];exact(uj he).1
 have HPS:=H (show gT S g e=if full S g then((lg (xI S g) (SgM.fS ⟨115,g.n+1⟩) tx).1,⟨115,g.n+1⟩) else((lg S (SgM.fS g) tx).1,g) by rw[htx];rfl);rw[<-htx] at PK0 hr;obtain⟨k,t,us,o,n,st⟩:=e;unfold jd Ev.v Ev.cells at AP0;unfold Ev.cells at PK0;unfold Ev.v Ev.cells;dsimp only at AP0 PK0 ⊢;have en:IntKind.i64.wrap (nt+1)=nt+1:=by rw[jh om]
 obtain⟨HP,HG,HOW,HOF⟩:=kB h (λW (hW:Bl O W)=>hO.below hW (aB _)) hOw hOF;obtain⟨HL,HR⟩:=eN hl hr;obtain⟨Eb,V0,hEb,hV0,BEb,HB,HEbw,SV⟩:=gC w #[I J k,I J t,C us,C o,I J n,I J st] 115;obtain⟨eb0,eb1,eb2,eb3,eb4,eb5⟩:=jg BEb;have HP0:=H (h.bl HB);obtain⟨HBV,AP,PK,HE⟩:=kB HP0.hB (λW (hW:Bl V0 W)=>AP0 W (HB.ca hW)) PK0 BEb;have s0:=Bk.all HP0.fo 0 D;have s1:=Bk.all HP0.fo 1 D;have s2:=Bk.all HP0.fo 2 D;have s3:=Bk.all HP0.fo 3 D;have s4:=Bk.all HP0.fo 4 D;have s5:=Bk.all HP0.fo 5 D;have s9:=Bk.all HP0.fo 9 D;have DW:=H (show Calls prog 56 #[ptr p] V0 λe w'=>e= .returned (.bool z)/\V0=w' from by have:=nj HP0.dk;rwa[hl.down] at this);have hb0:=br V0;unfold ZT at s0 s1 s2 s3 s4 s5 s9;clear h hg hO hOw hOF hl hr htx hst hu htb he zu zo
 go_enter func88,ntmps88
 go_upto_region 1 with fail
 rw[<-hV0,<-hEb];clear hV0 hEb
 go_upto_region 3 with(go_at_call 56;refine QS DW ?_)
 refine jI (T:=TT) (S:=Bl V0) [12] trivial (Bl.dr Bl.eH) λhT0 hS0=>?_
 try dsimp only at hT0 hS0
 refine aaa [0,1,2,3,4] ?_;refine td 5 ?_;refine td 6 ?_;refine ti 7 11 (λKQ hK=>?_) λKQ hK=>?_
 focus
  go_simp
  (go_at_call 131;refine aaj (AP _ hS0) λv7 w7 hs7 hb7=>?_)
  have hSC:=hS0;have hz7:=aH HBV hSC.size;obtain⟨vo7,vu7,vs7,vt7,ul7,rfl,hr7⟩:=hs7;replace hr7:=hr7.iD hz7;obtain⟨⟨B1,m1,e1,rfl⟩,⟨B2,m2,e2,rfl⟩,⟨B3,m3,e3,rfl⟩,B4,m4,e4,rfl⟩:=hr7.nr;unfold jd
  try (replace hG:=Bl.bl hb7 hG;obtain⟨g0,g1,g2,g3,g4,g5⟩:=rX hG;have gf:=λj=>Bk.fr hG j)
  have hT1:=hT0.ca hb7;have hS1:=hS0.ca hb7;refine kq hK ?_;refine aaa [8,9,10] ?_;refine eK 11 λKQ hK=>?_;go_simp;obtain⟨hG,hGs,hT2,hS2⟩:=alt hT1 hS1 #[av,av,aw,aw,aw,aw] 131
  try (replace hG:=zW hG;replace hGs:=zV hGs)
  obtain⟨g0,g1,g2,g3,g4,g5⟩:=jF hG;have gf:=λj=>Bk.fr hG j;refine kq hK ?_;refine eK 12 λKQ hK=>?_;go_simp;refine fJ (hK _ _) trivial (eI (j:=12) kr kr) (λhT3=>?_)
  try dsimp only at hT3
  try simp only[gz,fI]
  refine tz 13 hT3 (eI (j:=12) kr kr) ?_;refine iU ?_;have hL:=hS2
 rotate_left 1
 focus
  go_simp;obtain⟨hG,hGs,hT1,hS1⟩:=alt hT0 hS0 #[av,av,aw,aw,aw,aw] 131
  try (replace hG:=zW hG;replace hGs:=zV hGs)
  obtain⟨g0,g1,g2,g3,g4,g5⟩:=jF hG;have gf:=λj=>Bk.fr hG j;refine kq hK ?_;refine eK 7 λKQ hK=>?_;go_simp
  (go_at_call 131;refine aaj (AP _ hS1) λv7 w7 hs7 hb7=>?_)
  have hSC:=hS1;have hz7:=aH HBV hSC.size;obtain⟨vo7,vu7,vs7,vt7,ul7,rfl,hr7⟩:=hs7;replace hr7:=hr7.iD hz7;obtain⟨⟨B1,m1,e1,rfl⟩,⟨B2,m2,e2,rfl⟩,⟨B3,m3,e3,rfl⟩,B4,m4,e4,rfl⟩:=hr7.nr;unfold jd
  try (replace hG:=Bl.bl hb7 hG;obtain⟨g0,g1,g2,g3,g4,g5⟩:=rX hG;have gf:=λj=>Bk.fr hG j)
  have hT2:=hT1.ca hb7;have hS2:=hS1.ca hb7;refine kq hK ?_;refine aaa [8,9,10] ?_;refine eK 12 λKQ hK=>?_;go_simp;refine fJ (hK _ _) trivial (eI (j:=12) kr kr) (λhT3=>?_)
  try dsimp only at hT3
  try simp only[gz,fI]
  refine tz 13 hT3 (eI (j:=12) kr kr) ?_;refine iU ?_;have hL:=hS2
 rotate_left 1
 all_goals
  first
   | (have q:Bk w7 _ 131 _:=hG
      have hL6:=hL.kO hGs (I J x'.now) (I J x'.fb) (Z B1 m1 e1) (Z B2 m2 e2) (Z B3 m3 e3) (Z B4 m4 e4);unfold kS at hL6;have r6:=hr7.kO hG (I J x'.now) (I J x'.fb) (Z B1 m1 e1) (Z B2 m2 e2) (Z B3 m3 e3) (Z B4 m4 e4);unfold kS at r6;have k6:Bk _ _ 131 #[I J x'.now,I J x'.fb,Z B1 m1 e1,Z B2 m2 e2,Z B3 m3 e3,Z B4 m4 e4]:=Bk.set (Bk.set (Bk.set (Bk.set (Bk.set (Bk.set hG 0 (I J x'.now)) 1 (I J x'.fb)) 2 (Z B1 m1 e1)) 3 (Z B2 m2 e2)) 4 (Z B3 m3 e3)) 5 (Z B4 m4 e4);clear q hL hG;generalize (((((((w7:World).setCell ⟨_,0,E⟩ (I J x'.now)).setCell ⟨_,1,E⟩ (I J x'.fb)).setCell ⟨_,2,E⟩ (Z B1 m1 e1)).setCell ⟨_,3,E⟩ (Z B2 m2 e2)).setCell ⟨_,4,E⟩ (Z B3 m3 e3)).setCell ⟨_,5,E⟩ (Z B4 m4 e4))=W6 at*;generalize V0.heap.size=X at k6 ⊢;skip)
   | (have hL6:=(hSC.ca hb7).al (.cells #[I J x'.now,I J x'.fb,Z B1 m1 e1,Z B2 m2 e2,Z B3 m3 e3,Z B4 m4 e4] 131)
      have r6:=hr7.bl (gl w7 (.cells #[I J x'.now,I J x'.fb,Z B1 m1 e1,Z B2 m2 e2,Z B3 m3 e3,Z B4 m4 e4] 131));have k6:Bk _ _ 131 #[I J x'.now,I J x'.fb,Z B1 m1 e1,Z B2 m2 e2,Z B3 m3 e3,Z B4 m4 e4]:=eL w7 (.cells #[I J x'.now,I J x'.fb,Z B1 m1 e1,Z B2 m2 e2,Z B3 m3 e3,Z B4 m4 e4] 131);clear hL hG;generalize (w7.alloc (.cells #[I J x'.now,I J x'.fb,Z B1 m1 e1,Z B2 m2 e2,Z B3 m3 e3,Z B4 m4 e4] 131))=W6 at*;generalize w7.heap.size=X at k6 ⊢;skip)
 all_goals
  obtain⟨H06,HP6,HX6,HR6⟩:=kB hL6 (HP0.bl hL6) k6 r6;have HE6:=H (hL6.bl HE);clear hL6;have c9:∀ W,Bl W6 W->W.cell? ⟨s,9,E⟩=G (ptr p):=Bk.all HP6.fo 9 D;obtain⟨FI,SZ⟩:=eN (λW (hW:Bl W6 W)=>yv (HP6.bl hW) (IG HL.ok)) (λW (hW:Bl W6 W)=>Ds.tM (HP6.dk.fp hW) (n:=SgM.fS g) kQ);have HFU:=H (show full S g=decide (600<=(px (gG S.L (SgM.fS g))).size) from rfl);generalize (px (gG S.L (SgM.fS g))).size=au at SZ HFU;generalize (gG S.L (SgM.fS g)).isSome=zb at SZ
  go_upto_region 6 with fail
  refine jI (T:=Bl W6) (S:=Bl W6) [] (Bl.dr Bl.eH) (Bl.dr Bl.eH) λhT0 hS0=>?_
  try dsimp only at hT0 hS0
  refine aaa [0,1,2] ?_;refine td 3 ?_;refine qd 4 ?_;refine eK 5 λKQ hK=>?_;go_simp
  (go_at_call 132;refine qx (FI _ hS0) λw8 hb8=>?_)
  have hT1:=hS0.ca hb8;have hS1:=hT1;refine kq hK ?_;refine eK 6 λKQ hK=>?_;go_simp
  (go_at_call 99;refine qx (SZ _ hS1) λw9 hb9=>?_)
  have hT2:=hS1.ca hb9;have hS2:=hT2;refine kq hK ?_;refine aaa [7,8,9,10,11] ?_;refine iU ?_;have hL:=hS2;have H9:=H hL;rcases bZ au 600 with hz | hz
  focus
   have i1:¬(au:Int)≥600:=om;have HF:=H (show full S g=z by rw[HFU.out];exact aC om)
   go_upto_region 11 with fail
   have HP9:=HP6.bl H9;obtain⟨HX8,HE8,HR8,HK8⟩:=kB (H9.bl HX6) (H9.bl HE6) (HR6.bl H9) (show KF [s,p,b] V0 w9 from KF.of (H06.ca H9));have hpt:gT S g ⟨k,t,us,o,n,st⟩=((lg S (SgM.fS g) tx).1,g):=by rw[HPS.out,az (by rw[HF.out];decide)]
   obtain⟨N8,hN8,hl8⟩:∃ N8,N8<=1000002/\LD N8 ld g u S:=⟨N,om,HL⟩;obtain⟨S8,hS3⟩:=fe S;obtain⟨g8,hg8⟩:=fe g;obtain⟨V8,hV8⟩:=fe w9;rw[<-hS3,<-hg8] at HP9 hpt hl8;rw[<-hV8] at HP9 HX8 HE8 HR8 HK8 ⊢;rw[hS3,hg8] at hpt;obtain⟨HPT,HP8⟩:=eN (show gT S g ⟨k,t,us,o,n,st⟩=((lg S8 (SgM.fS g8) tx).1,g8) by rw[hS3,hg8];exact hpt) HP9;clear hpt hS3 hg8 hV8
  rotate_left
  focus
   have i1:(au:Int)≥600:=om;obtain⟨HF,RO⟩:=eN (show full S g=Q by rw[HFU.out];exact aF hz) (Ny (HP6.bl H9) HL hN om)
   go_upto_region 11 with(go_at_call 133;refine RO.mono ?_;rintro e V8 ⟨rfl,hp8,hk8⟩)
   have HK8:=H (show KF [s,p,b] V0 V8 from(KF.of (H06.ca H9)).ca hk8);have nx:=(HP6.bl H9).ne (H9.bl HX6) dc dc;have ne:=(HP6.bl H9).ne (H9.bl HE6) dc dc;obtain⟨HX8,HE8,HR8⟩:=gi (hk8.hp (H9.bl HX6) (by simp[nx.1,nx.2.1,nx.2.2])) (hk8.hp (H9.bl HE6) (by simp[ne.1,ne.2.1,ne.2.2])) ((HP6.bl H9).GV sm hk8 (HR6.bl H9));obtain⟨N8,hN8,hl8⟩:∃ N8,N8<=1000002/\LD N8 ld ⟨115,g.n+1⟩ u (xI S g):=⟨N+2,om,IY HL om⟩;have HPT:=H (show gT S g ⟨k,t,us,o,n,st⟩=((lg (xI S g) (SgM.fS ⟨115,g.n+1⟩) tx).1,⟨115,g.n+1⟩) by rw[HPS.out,aA HF.out])
   change SA V8 B s p b (xI S g) ⟨115,g.n+1⟩ _ _ _ _ _ _ _ _ _ at hp8
   generalize xI S g=S8 at hp8 hl8 HPT;generalize (⟨115,g.n+1⟩:Sg)=g8 at hp8 hl8 HPT;have HP8:=H hp8;clear nx ne
  rotate_left
  all_goals
   have HLD:=H hl8;have HAZ:=H (GM HLD tx HR).1;have c9:∀ W,KF [p,b] V8 W->W.cell? ⟨s,9,E⟩=G (ptr p):=KF.all (F:=[p,b]) HP8.fo (by simp[HP8.out.np,HP8.out.nb]) 9 D;have nE:=HP8.ne HE8 dc dc;have nX:=HP8.ne HX8 dc dc;have HXn:=H (show X∉[p,b] by simp[nX.2.1,nX.2.2]);have hEn:Eb∉[p,b]:=by simp[nE.2.1,nE.2.2]
   have f0:∀ W,KF [p,b] V8 W->W.cell? ⟨Eb,0,E⟩=G (I J k):=KF.all HE8 hEn 0 D;have f1:∀ W,KF [p,b] V8 W->W.cell? ⟨Eb,1,E⟩=G (I J t):=KF.all HE8 hEn 1 D;have f2:∀ W,KF [p,b] V8 W->W.cell? ⟨Eb,2,E⟩=G (C us):=KF.all HE8 hEn 2 D;have f3:∀ W,KF [p,b] V8 W->W.cell? ⟨Eb,3,E⟩=G (C o):=KF.all HE8 hEn 3 D;have f4:∀ W,KF [p,b] V8 W->W.cell? ⟨Eb,4,E⟩=G (I J n):=KF.all HE8 hEn 4 D;have f5:∀ W,KF [p,b] V8 W->W.cell? ⟨Eb,5,E⟩=G (I J st):=KF.all HE8 hEn 5 D;obtain⟨FJ,HG8⟩:=eN (λW (hW:Bl V8 W)=>yv (HP8.bl hW) (IG HLD.ok)) (λW (hW:Bl V8 W)=>HG W ((HK8.yN (HOW.ca HB) HOF).ca hW));have AD:=λW (hW:Bl V8 W)=>Ds.yG (HP8.dk.fp hW) (HLD.iv.bd om) (n:=SgM.fS g8) (t:=tx) kQ om;unfold Ds.jE at AD;rw[HAZ.out] at AD;replace AD:=H AD;clear nE nX hEn;refine jI (T:=KF [p,b] V8) (S:=KF [p,b] V8) [] (KF.dr KF.eH) (KF.dr KF.eH) λhT0 hS0=>?_
   try dsimp only at hT0 hS0
   refine aaa [0,1,2] ?_;refine td 3 ?_;refine qd 4 ?_;refine td 6 ?_;refine ti 5 7 (λKQ hK=>?_) λKQ hK=>?_
   focus
    go_simp
    (go_at_call 132;refine qx (FJ _ lW) λw10 hb10=>?_)
    have hv10:Bl V8 w10:=Bl.ca lW hb10;have hT1:=hS0.bl hb10;have hS1:=hT1;refine kq hK ?_;refine eK 7 λKQ hK=>?_;go_simp;refine wH (P:=λw'=>KF [p,b] V8 w') (hK _ _) (hT1.al _) (λhT2 hA2 hM2=>?_);clear hM2
    try dsimp only at hT2
    have hS2:=hT2
    try simp only[gz,fI]
    refine eK 8 λKQ hK=>?_;go_simp
    (go_at_call 135;refine qx (PK _ _ (HG8 _ lU) hA2) λw11 hb11=>?_)
    have hv11:Bl V8 w11:=Bl.ca lU hb11;have hT3:=hS2.bl hb11;have hS3:=hT3;refine kq hK ?_;refine eK 9 λKQ hK=>?_;go_simp
    (go_at_call 134;refine(AD _ hv11).mono ?_;rintro e w12 ⟨rfl,hd12,hk12⟩)
    have hT4:=hS3.ca (KF.kp hk12 sm sm);have hS4:=hT4;refine kq hK ?_;refine qd 10 ?_;refine iU ?_;have hL:=hS4
   rotate_left 1
   focus
    go_simp;refine wH (P:=λw'=>KF [p,b] V8 w') (hK _ _) (hT0.al _) (λhT3 hA3 hM3=>?_);clear hM3
    try dsimp only at hT3
    have hS3:=hT3
    try simp only[gz,fI]
    refine eK 5 λKQ hK=>?_;go_simp
    (go_at_call 132;refine qx (FJ _ lW) λw10 hb10=>?_)
    have hv10:Bl V8 w10:=Bl.ca lW hb10;replace hA3:=Bl.bl hb10 hA3;have hT4:=hS3.bl hb10;have hS4:=hT4;refine kq hK ?_;refine eK 8 λKQ hK=>?_;go_simp
    (go_at_call 135;refine qx (PK _ _ (HG8 _ lU) hA3) λw11 hb11=>?_)
    have hv11:Bl V8 w11:=Bl.ca lU hb11;have hT5:=hS4.bl hb11;have hS5:=hT5;refine kq hK ?_;refine eK 9 λKQ hK=>?_;go_simp
    (go_at_call 134;refine(AD _ hv11).mono ?_;rintro e w12 ⟨rfl,hd12,hk12⟩)
    have hT6:=hS5.ca (KF.kp hk12 sm sm);have hS6:=hT6;refine kq hK ?_;refine qd 10 ?_;refine iU ?_;have hL:=hS6
   rotate_left 1
   all_goals
    have HK12:=H (show KF [p,b] V8 w12 from hL);obtain⟨HP12,HX12,HR12,HK⟩:=kB (HP8.YY HK12 hd12) (HK12.hp HX8 HXn) (HP8.GV sm HK12 HR8) (show KF [s,p,b] V0 w12 from HK8.ca (HK12.mono sm));obtain⟨q0,q1,q2,q3,q4,q5⟩:=Bk.f6 HX12;obtain⟨z0,z1,z2,z3,z4,z5,_,_,_,_,_,_⟩:=xv HP12.fo;have zf:=λj=>Bk.fr HP12.fo j;clear hL
    go_upto_region 15 with fail
    have W13:=HP12.Yl HR12;unfold kS at W13;have K13:KF [s,p,b] V0 ((((((w12.setCell ⟨s,0,E⟩ (I J x'.now)).setCell ⟨s,1,E⟩ (I J x'.fb)).setCell ⟨s,2,E⟩ (Z B1 m1 e1)).setCell ⟨s,3,E⟩ (Z B2 m2 e2)).setCell ⟨s,4,E⟩ (Z B3 m3 e3)).setCell ⟨s,5,E⟩ (Z B4 m4 e4)):=(((((HK.st sm _).st sm _).st sm _).st sm _).st sm _).st sm _;generalize ((((((w12.setCell ⟨s,0,E⟩ (I J x'.now)).setCell ⟨s,1,E⟩ (I J x'.fb)).setCell ⟨s,2,E⟩ (Z B1 m1 e1)).setCell ⟨s,3,E⟩ (Z B2 m2 e2)).setCell ⟨s,4,E⟩ (Z B3 m3 e3)).setCell ⟨s,5,E⟩ (Z B4 m4 e4))=V13 at W13 K13 ⊢;have y10:V13.cell? ⟨s,10,E⟩=G (I J nt):=Bk.ce W13.fo 10;have yf:=λj=>Bk.fr W13.fo j;obtain⟨H13,HK13⟩:=eN W13 K13
    go_wp2_with fail
    go_ret;exact⟨D,⟨_,_,_,_,_,_,(by rw[HPT.out];exact H13.Yo _)⟩,((KF.of HB).ca HK13).st sm _⟩
theorem so{p:Nat}{S}{g}{x}{ul}(h:SA w B s p b S g x ev nt na vo vu vs vt ul)(hN:UI x):
 Calls prog 85 #[ptr s] w λe w'=>∃ v',e= .returned v'/\iW w' w.heap.size v' x/\Bl w w':=by
 have CL:=H (λW (hb:Bl w W)=>pt x (jd x vo vu vs vt) B W ⟨vo,vu,vs,vt,ul,D,h.st.bl hb⟩ hN);obtain⟨⟨C1,n1,d1,rfl⟩,⟨C2,n2,d2,rfl⟩,⟨C3,n3,d3,rfl⟩,C4,n4,d4,rfl⟩:=h.st.nr;unfold jd at CL;obtain⟨Y,V0,hY,hV0,BY,HB,HYw,SV⟩:=gC w #[av,av,aw,aw,aw,aw] 131;obtain⟨y0,y1,y2,y3,y4,y5⟩:=jg BY;obtain⟨HY,HP0⟩:=eN BY (h.bl HB);obtain⟨s0,s1,s2,s3,s4,s5,_,_,_,_,_,_⟩:=xv HP0.fo;clear h
 go_enter func85,ntmps85
 go_upto_region 1 with fail
 rw[<-hV0,<-hY];clear hV0 hY;have hCL:=H (CL V0 HB)
 go_wp2_with (go_at_call 123;refine hCL.mono ?_;rintro e w1 ⟨v1,rfl,⟨vo1,vu1,vs1,vt1,ul1,rfl,hr1⟩,hb1⟩;obtain⟨⟨A1,q1,c1,rfl⟩,⟨A2,q2,c2,rfl⟩,⟨A3,q3,c3,rfl⟩,A4,q4,c4,rfl⟩:=hr1.nr;unfold jd;have HY1:=H (hb1.bl HY);obtain⟨z0,z1,z2,z3,z4,z5⟩:=Bk.f6 HY1;have zf:=λj=>Bk.fr HY1 j)
 have hz:=HB.size;exact aa1 (eS (p:=2) D _ _ _ _ _ _ _ D (Bk.s6 HY1 _ _ _ _ _ _) underlying131 D iy) D ⟨_,D,⟨_,_,_,_,_,D,(hr1.kO HY1 _ _ _ _ _ _).iD hz⟩,(HB.ca hb1).kO fD _ _ _ _ _ _⟩
theorem po{p:Nat}{S}{g}{x}{ul}(h:SA w B s p b S g x ev nt na vo vu vs vt ul):
 Calls prog 40 #[ptr s] w λe w'=>e= .returned (ptr p)/\w=w':=by
 obtain⟨_,_,_,_,_,_,_,_,_,s9,_,_⟩:=xv h.fo;clear h
 go_enter func40,ntmps40
 go_wp2_with fail
 go_ret;exact⟨D,D⟩
theorem Hd(h:Bk w aq 96 #[ptr s]):
 Calls prog 91 #[ptr aq] w λe w'=>e= .returned (ptr s)/\w=w':=by
 have d0:=h.ce 0;clear h
 go_enter func91,ntmps91
 go_wp2_with fail
 go_ret;exact⟨D,D⟩
theorem KF.Ap(h:Bk V A t #[c0,c1,c2,c3,c4,c5,c6,c7,c8,c9,c10,c11,c12,c13,c14])(hA:A∉F):(∀ W,KF F V W->W.cell? ⟨A,0,E⟩=G c0)/\(∀ W,KF F V W->W.cell? ⟨A,1,E⟩=G c1)/\(∀ W,KF F V W->W.cell? ⟨A,2,E⟩=G c2)/\(∀ W,KF F V W->W.cell? ⟨A,3,E⟩=G c3)/\(∀ W,KF F V W->W.cell? ⟨A,4,E⟩=G c4)/\(∀ W,KF F V W->W.cell? ⟨A,5,E⟩=G c5)/\(∀ W,KF F V W->W.cell? ⟨A,6,E⟩=G c6)/\(∀ W,KF F V W->W.cell? ⟨A,7,E⟩=G c7)/\(∀ W,KF F V W->W.cell? ⟨A,8,E⟩=G c8)/\(∀ W,KF F V W->W.cell? ⟨A,9,E⟩=G c9)/\(∀ W,KF F V W->W.cell? ⟨A,10,E⟩=G c10)/\(∀ W,KF F V W->W.cell? ⟨A,11,E⟩=G c11)/\(∀ W,KF F V W->W.cell? ⟨A,12,E⟩=G c12)/\(∀ W,KF F V W->W.cell? ⟨A,13,E⟩=G c13)/\(∀ W,KF F V W->W.cell? ⟨A,14,E⟩=G c14):=
 ⟨KF.all h hA 0 D,KF.all h hA 1 D,KF.all h hA 2 D,KF.all h hA 3 D,KF.all h hA 4 D,KF.all h hA 5 D,KF.all h hA 6 D,KF.all h hA 7 D,KF.all h hA 8 D,KF.all h hA 9 D,KF.all h hA 10 D,KF.all h hA 11 D,KF.all h hA 12 D,KF.all h hA 13 D,KF.all h hA 14 D⟩
theorem Xt{p:Nat}{S}{g}{x x'}{ul}(h:SA w B s p b S g x ev nt na vo vu vs vt ul)(hD:Bk w aq 96 #[ptr s]){uu:Nat}(hl:LD N ld g uu S)(hN:N<=1000000)(k t:Int)(u o:ay)(n st:Int)(hn:g.n<=999999)(hnt:0<=nt/\nt<=1000000)(hO:Gb O)(hOw:Bl O w)(hOF:∀ q∈[s,p,b],O.heap.size<=q)(he:fL ⟨k,t,u,o,n,st⟩=Q)(hst:ft bf fL x ⟨k,t,u,o,n,st⟩=G x')(hf:pY 60 x)(hu:Ord il.u bf x.us)(htb:Ord gb.u bf x.tb)(hr:(uu:Int)+((nz ⟨k,t,u,o,n,st⟩).size:Nat)<=ld):
 Calls prog 59 #[ptr aq,.agg #[av,I J k,I J t,C u,C o,I J n,I J st,ax,ax,ax,av,av,av,av,ax]] w λe w'=>e= .returned av/\SX w' B s p b (gT S g ⟨k,t,u,o,n,st⟩).1 (gT S g ⟨k,t,u,o,n,st⟩).2 x' ev (nt+1)/\KF [s,p,b] w w':=by
 obtain⟨A,hA⟩:=fe w.heap.size;obtain⟨V0,hV0⟩:=fe (w.alloc (.cells #[av,I J k,I J t,C u,C o,I J n,I J st,ax,ax,ax,av,av,av,av,ax] 121));have BA:Bk V0 A 121 #[av,I J k,I J t,C u,C o,I J n,I J st,ax,ax,ax,av,av,av,av,ax]:=by rw[hV0];exact fh _ _ hA
 have HB:=H (show Bl w V0 by rw[hV0];exact gl _ _);have HP:=H (h.bl HB);have nA:=HP.ne BA dc dc;have nD:=h.ne hD dc dc;have hAF:A∉[s,p,b]:=by simp[nA.1,nA.2.1,nA.2.2]
 have hDF:aq∉[s,p,b]:=by simp[nD.1,nD.2.1,nD.2.2]
 obtain⟨a0,a1,a2,a3,a4,a5,a6,a7,a8,a9,sG,uB,a12,sQ,sP⟩:=KF.Ap (F:=[s,p,b]) BA hAF;have d0:∀ W,KF [s,p,b] V0 W->W.cell? ⟨aq,0,E⟩=G (ptr s):=KF.all (HB.bl hD) hDF 0 D;have DO:=λW (hW:Bl V0 W)=>Xo (HP.bl hW) hl hN hn hnt hO (hOw.ca (HB.ca hW)) hOF ⟨k,t,u,o,n,st⟩ he hst hf hu htb hr;unfold Ev.v Ev.cells at DO;replace DO:=H DO;have hb0:KF [s,p,b] V0 V0:=KF.eH;clear h hD hl hO hOw hOF he hst hu htb hr nA nD hAF hDF
 go_enter func59,ntmps59
 go_upto_region 1 with fail
 rw[<-hV0,<-hA];clear hV0 hA
 go_upto_region 3 with fail
 refine jI (T:=KF [s,p,b] V0) (S:=KF [s,p,b] V0) [] (KF.dr KF.eH) (KF.dr KF.eH) λhT0 hS0=>?_
 try dsimp only at hT0 hS0
 refine aaa [0,1,2,3] ?_;refine td 4 ?_;refine qd 5 ?_;refine td 6 ?_;refine eK 7 λKQ hK=>?_;go_simp
 (go_at_call 88;refine(DO _ (Bl.dr Bl.eH)).mono ?_;rintro e w9 ⟨rfl,hs9,hk9⟩)
 have hT1:=hS0.ca hk9;have hS1:=hT1;refine kq hK ?_;refine qd 8 ?_;refine iU ?_;have hL:=hS1
 go_wp2_with fail
 go_ret;exact⟨D,hs9,(KF.of HB).ca hL⟩
theorem Xr{p:Nat}{S}{g}{x}{ul}(h:SA w B s p b S g x ev nt na vo vu vs vt ul)(hD:Bk w aq 96 #[ptr s]){u:Nat}(hl:LD N ld g u S)(hN:N<=1000000):
 Calls prog 59 #[ptr aq,.agg #[I J 1,av,av,ax,ax,av,av,ax,ax,ax,av,av,av,av,ax]] w λe w'=>e= .returned av/\SX w' B s p b (mg S (SgM.fS g)).1 g x ev nt/\KF [s,p,b] w w':=by
 obtain⟨A,hA⟩:=fe w.heap.size;obtain⟨V0,hV0⟩:=fe (w.alloc (.cells #[I J 1,av,av,ax,ax,av,av,ax,ax,ax,av,av,av,av,ax] 121));have BA:Bk V0 A 121 #[I J 1,av,av,ax,ax,av,av,ax,ax,ax,av,av,av,av,ax]:=by rw[hV0];exact fh _ _ hA
 have HB:=H (show Bl w V0 by rw[hV0];exact gl _ _);have HP:=H (h.bl HB);have nA:=HP.ne BA dc dc;have nD:=h.ne hD dc dc;have hAF:A∉[s,p,b]:=by simp[nA.1,nA.2.1,nA.2.2]
 have hDF:aq∉[s,p,b]:=by simp[nD.1,nD.2.1,nD.2.2]
 obtain⟨a0,a1,a2,a3,a4,a5,a6,a7,a8,a9,sG,uB,a12,sQ,sP⟩:=KF.Ap (F:=[s,p,b]) BA hAF;have d0:∀ W,KF [s,p,b] V0 W->W.cell? ⟨aq,0,E⟩=G (ptr s):=KF.all (HB.bl hD) hDF 0 D;have SY:=H (xq HP hl hN);have hb0:KF [s,p,b] V0 V0:=KF.eH;clear h hD hl nA nD hAF hDF
 go_enter func59,ntmps59
 go_upto_region 1 with fail
 rw[<-hV0,<-hA];clear hV0 hA
 go_wp2_with (go_at_call 89;refine SY.mono ?_;rintro e w9 ⟨rfl,hs9,hk9⟩)
 go_ret;exact⟨D,⟨_,_,_,_,_,_,hs9⟩,(KF.of HB).ca hk9⟩
end Tp
namespace Tp
open Go Go.RowKit Go.Lib Go.Sort
open FrM CrcM SgM
open Ds (Dk eF lg mg jY Iv Bd ptr Kp px kJ)
open Ds.DkM (Fl gG bf)
def XS (b:Bool):Int:=if b then 1 else 0
def oG (code at_:Int)(sn:Bool)(nx:ay)(L:List eP):ay:=gR ([eD code,eD at_,eD (XS sn),jN nx]++L.map lr)
theorem Pc (s):(lr s).size<=1000:=by
 unfold lr
 split
 ·decide
 ·rw[iR];exact zT s
theorem LX (s)(w):Calls prog 52 #[C s] w λe w'=>e= .returned (C (jN s))/\w=w':=by
 have E1:(s.toList==[])=decide (s=⟨#[]⟩):=by
  have h:=gS (a:=s) (b:=⟨#[]⟩)
  rwa[GB] at h
 by_cases h:s=⟨#[]⟩
 ·subst h;exact QT w
 ·have HE:=H (show jN s=s by unfold jN;rw[az (λh0=>h (uN h0))]);rw[aC h] at E1;have n3:s.toList.isEmpty=z:=by cases hh:s.toList with | nil=>rw[hh] at E1;cases E1 | cons=>rfl
  have n2:s.toList≠[]:=by intro e;rw[e] at E1;cases E1
  clear h
  go_enter func52,ntmps52
  exact ib
theorem C6 (code at_:Int)(sn:Bool)(nx:ay)(L)(v)(b:Nat)(w)(h:Rw eP.cs 112 4 w b v L)(hg:Gb w)(hl:L.length<=1000)(hnx:nx≠gE)(hns:nx.size<=100000):
 aai 36 #[.agg #[I J code,v,C nx,I J at_,.bool sn]] w (C (oG code at_ sn nx L)):=by
 obtain⟨A2,cap,rfl,hnc,hcap⟩:=h.form;have HR:=H h;obtain⟨m,hm,HM⟩:=nh L.length;rw[<-hm] at hnc hl ⊢;have HG:=H hg;clear h hm hg;obtain⟨A,V0,hA,hV0,BA,HB,HAw,SV⟩:=gC w #[I J code,Z A2 m cap,C nx,I J at_,.bool sn] 86;obtain⟨a0,a1,a2,a3,a4⟩:=wY BA;obtain⟨DC,DA,DS,KY⟩:=kB (λW=>yy code V0 W (HG.below HB (aB _))) (λW=>yy at_ V0 W (HG.below HB (aB _))) (λW=>yy (XS sn) V0 W (HG.below HB (aB _))) (λx W (hW:Bl w W)=>Bx x W (HG.below hW (aB _)));have hb0:=br V0;have HT:=H (show oG code at_ sn nx L=gR ([eD code,eD at_,eD (XS sn),jN nx]++L.map lr) from rfl);obtain⟨s1,hs1,HS1⟩:=nh (XS sn);rw[<-hs1] at DS HT;have ED:(nx.toList==[45])=z:=by
  have h:=gS (a:=nx) (b:=gE);rw[aC hnx,show gE.toList=[45] by rw[ByteArray.toList_eq];rfl] at h;exact h
 have hbn:(jN nx).size<=100000:=by unfold jN;split;decide;exact hns
 go_enter func36,ntmps36
 go_upto_region 1 with fail
 rw[<-hV0,<-hA];clear hV0 hA;rcases sn with _ | _
 have tg0:Tg 0:=⟨⟩;rotate_left;have tg0:Tg 1:=⟨⟩;rotate_left;obtain rfl:=hs1.trans (show XS _=0 from rfl);rotate_left;obtain rfl:=hs1.trans (show XS _=1 from rfl);rotate_left
 all_goals
  clear hs1
  go_upto_region 6 with fail
  refine jI (T:=Bl V0) (S:=Bl V0) [] (Bl.dr Bl.eH) (Bl.dr Bl.eH) λhT0 hS0=>?_
  try dsimp only at hT0 hS0
  refine qd 0 ?_;refine td 1 ?_;refine qd 3 ?_;refine td 4 ?_;refine aaa [6,8] ?_;refine td 9 ?_;refine eK 2 λKQ hK=>?_;go_simp
  (go_at_call 51;refine qx (DC _ hS0) λw1 hb1=>?_)
  have hT1:=hb1;have hS1:=hT1;refine kq hK ?_;refine eK 5 λKQ hK=>?_;go_simp
  (go_at_call 51;refine qx (DA _ hS1) λw1 hb1=>?_)
  have hT2:=hb1;have hS2:=hT2;refine kq hK ?_;refine eK 7 λKQ hK=>?_;go_simp
  (go_at_call 51;refine qx (DS _ hS2) λw1 hb1=>?_)
  have hT3:=hb1;have hS3:=hT3;refine kq hK ?_;refine eK 10 λKQ hK=>?_;go_simp
  (go_at_call 52;refine QS (LX nx _) ?_)
  have hT4:=hS3;have hS4:=hT4;refine kq hK ?_;refine eK 11 λKQ hK=>?_;go_simp;refine jf (hK _ _) (hT4.al _) (λhT5 hA5 hM5=>?_);clear hM5
  try dsimp only at hT5
  have hS5:=hT5
  try simp only[gz,fI]
  refine qd 12 ?_;refine iU ?_;have hL:=hS5
 obtain⟨V6,an,hV6,hG,BG,LV6⟩:=iC w1 #[C (eD code),C (eD at_),C (eD 0),C (jN nx)] 9;rotate_left;obtain⟨V6,an,hV6,hG,BG,LV6⟩:=iC w1 #[C (eD code),C (eD at_),C (eD 1),C (jN nx)] 9;rotate_left
 all_goals
  rw[<-hV6,<-hG];clear hV6;replace hG:=H hG;obtain⟨g0,g1,g2,g3⟩:=pw BG;obtain⟨HL6,HG6⟩:=eN (show Bl V0 V6 from hb1.ca LV6) (show V0.heap.size<=an by have h2:=hb1.size;rw[hG.out];exact h2)
 have RW6:=H (ki [eD code,eD at_,eD 0,jN nx] BG D D sm HG6);rotate_left;have RW6:=H (ki [eD code,eD at_,eD 1,jN nx] BG D D sm HG6);rotate_left
 all_goals
  have hb6:Bl V0 V6:=HL6.out
  go_upto_region 8 with fail
  first
   | have _:Tg 1:=tg0
     go_loopw [27,4] (λi o wr=>∃ k:Nat,k<=m/\i= I J k/\Rw qc 9 1 wr V0.heap.size o ([eD code,eD at_,eD 1,jN nx]++(L.take k).map lr)/\Bl V0 wr) (λi _ _=>m - (intOf i).toNat)
   | go_loopw [27,4] (λi o wr=>∃ k:Nat,k<=m/\i= I J k/\Rw qc 9 1 wr V0.heap.size o ([eD code,eD at_,eD 0,jN nx]++(L.take k).map lr)/\Bl V0 wr) (λi _ _=>m - (intOf i).toNat)
  case atStart=>exact⟨0,aD _,D,by simpa using RW6.out,HL6⟩
  case round=>
   obtain⟨k,hk,rfl,ho,hb⟩:=hrel;by_cases hlt:k<m
   ·have hk':k<L.length:=by rw[<-HM.out];exact hlt
    obtain⟨g,rfl,_,_,c0,c1,c2,c3⟩:=HR.vW (f:=eP.cs) (c0:=λx=>I J x.a) (c1:=λx=>I J x.b) (c2:=λx=>I J x.n) (c3:=λx=>I J x.st) (λ_=>rfl) k hk'
    first
     | have _:Tg 1:=tg0
       have FT:=H (show [eD code,eD at_,eD 1,jN nx]++(L.take (k+1)).map lr=([eD code,eD at_,eD 1,jN nx]++(L.take k).map lr)++[lr L[k]] by rw[aL hk',cz,aS];rfl);have hlen:([eD code,eD at_,eD 1,jN nx]++(L.take k).map lr).length<=k+4:=by rw[aU,bg,aK];simp;omega
     | have FT:=H (show [eD code,eD at_,eD 0,jN nx]++(L.take (k+1)).map lr=([eD code,eD at_,eD 0,jN nx]++(L.take k).map lr)++[lr L[k]] by rw[aL hk',cz,aS];rfl)
       have hlen:([eD code,eD at_,eD 0,jN nx]++(L.take k).map lr).length<=k+4:=by rw[aU,bg,aK];simp;omega
    have KX:=λW hW=>KY L[k] W hW;generalize L[k]=x at*;have HBk:=H (HB.ca hb);unfold eP.v at KX;replace KX:=H KX;obtain⟨i1,i2⟩:=ln (k:=k) (m:=m) om;obtain⟨HO,HB0⟩:=eN ho hb;obtain⟨q0,q1,q2,q3⟩:=uW c0 c1 c2 c3 wr HBk;clear ho c1
    go_upto_region 10 with fail
    obtain⟨V1,ar,hV1,hQ,BQ,LV1⟩:=iC wr #[I J x.a,I J x.b,I J x.n,I J x.st] 112;rw[<-hV1,<-hQ];clear hV1;replace hQ:=H hQ;obtain⟨q0,q1,q2,q3⟩:=pw BQ;obtain⟨r0,r1,r2,r3⟩:=uW q0 q1 q2 q3 V1 Bl.eH;have KV:=H (KX V1 (HBk.ca LV1))
    go_wp2_with (first | (go_at_call 53;refine qx KV λw2 hb2=>?_) | (at_builtin;refine fH xi D _ _ D V0.heap.size D (HO.bl ((LV1.ca hb2).al _)) D (eL _ _) (y:=lr x) D D (AW _) om ((HB0.ca (LV1.ca hb2)).al _).size ?_;intro v7 w7 ho7 hb7))
    exact⟨⟨k+1,hlt,eB,by rw[FT.out];exact ho7,hb7 V0 D ((HB0.ca (LV1.ca hb2)).al _)⟩,eE⟩
   ·have ek:k=m:=om;have i1:¬(k:Int)<m:=om;have HBk:=H (HB.ca hb);rw[ek,HM.out,aT] at ho;have LN:=H (kV _ _ wr (AZ ho) (by have:=HM.out;simp;omega) (λs hs=>by
     rcases bG.1 hs with hs | hs
     ·first
       | have _:Tg 1:=tg0
         have d1:=fg code;have d2:=fg at_;have d3:=fg 1
       | have d1:=fg code;have d2:=fg at_;have d3:=fg 0
      simp only[aE,aO,aQ] at hs;rcases hs with rfl | rfl | rfl | rfl<;>omega
     ·obtain⟨y,_,rfl⟩:=bI.1 hs;have:=Pc y;omega))
    clear ho
    go_wp2_with (go_at_call 54;refine qx LN λw5 hb5=>?_)
    go_ret;exact⟨by rw[HT.out];rfl,HBk.ca hb5⟩
end Tp
namespace Tp
open Go Go.RowKit Go.Lib CrcM FrM SgM
open Ds (Dk eF lg mg jY Iv Bd ptr Kp px kJ)
open Ds.DkM (Fl gG bf)
theorem pg:(prog.info? 86).map (·.size)=G 5:=kr
theorem Bk.f5{a b c d e:Value}(h:Bk W A t #[a,b,c,d,e]):W.cell? ⟨A,0,E⟩=G a/\W.cell? ⟨A,1,E⟩=G b/\W.cell? ⟨A,2,E⟩=G c/\W.cell? ⟨A,3,E⟩=G d/\W.cell? ⟨A,4,E⟩=G e:=
 ⟨h.ce 0,h.ce 1,h.ce 2,h.ce 3,h.ce 4⟩
abbrev J4 (W:World)(Y:Nat)(a b c d e:Value):World:=((((W.setCell ⟨Y,0,E⟩ a).setCell ⟨Y,1,E⟩ b).setCell ⟨Y,2,E⟩ c).setCell ⟨Y,3,E⟩ d).setCell ⟨Y,4,E⟩ e
theorem Bk.s5{a b c d e:Value}(h:Bk W A t #[a,b,c,d,e])(a' b' c' d' e'):Bk (J4 W A a' b' c' d' e') A t #[a',b',c',d',e']:=
 ((((Bk.set h 0 a').set 1 b').set 2 c').set 3 d').set 4 e'
theorem SA.fw{p:Nat}{S}{g}{x}{ul}{cs}(h:SA w B s p b S g x ev nt na vo vu vs vt ul)(hY:Bk w Y 86 cs)(i:Nat)(v):SA (w.setCell ⟨Y,i,E⟩ v) B s p b S g x ev nt na vo vu vs vt ul:=by
 exact qP
theorem SX.aaf{p:Nat}{S}{g}{x}{cs}(h:SX w B s p b S g x ev nt)(hY:Bk w Y 86 cs)(v0 v1 v2 v3 v4):SX (J4 w Y v0 v1 v2 v3 v4) B s p b S g x ev nt:=
 let⟨_,_,_,_,_,_,h⟩:=h
 ⟨_,_,_,_,_,_,((((h.fw hY 0 v0).fw (hY.set 0 v0) 1 v1).fw ((hY.set 0 v0).set 1 v1) 2 v2).fw (((hY.set 0 v0).set 1 v1).set 2 v2) 3 v3).fw ((((hY.set 0 v0).set 1 v1).set 2 v2).set 3 v3) 4 v4⟩
theorem SX.bl{p:Nat}{S}{g}{x}(h:SX w B s p b S g x ev nt)(hb:Bl w w'):SX w' B s p b S g x ev nt:=
 let⟨_,_,_,_,_,_,h⟩:=h;⟨_,_,_,_,_,_,h.bl hb⟩
theorem KF.Lq(h:KF F V w)(hY:V.heap.size<=Y)(a b c d e):KF F V (J4 w Y a b c d e):=by
 have st:∀ {W:World} (i:Nat) (v:Value),KF F V W->KF F V (W.setCell ⟨Y,i,E⟩ v):=λ{W} i v h=>
  ⟨h.os,h.tape,h.output,jv,λk hk hn=>(aa0 W ⟨Y,i,E⟩ v k (by show k≠Y;omega)).trans (h.block k hk hn)⟩
 exact st 4 e (st 3 d (st 2 c (st 1 b (st 0 a h))))
theorem O0:(∀ (k t:Int) (u o:ay) (n st:Int) {w:World} {B s p b aq:Nat} {S S':Dk} {g g':Sg} {x x':St} {ev nt na ev' nt':Int} {vo vu vs vt:Value} {ul:List UC} (h:SA w B s p b S g x ev nt na vo vu vs vt ul) (hD:Bk w aq 96 #[ptr s]) (hdn:S.down=z) (cd:Int) (τ:ay) (hrd:∀ W,Bl w W->aai 55 #[C τ] W (.tuple #[.agg #[av,I J k,I J t,C u,C o,I J n,I J st,ax,ax,ax,av,av,av,av,ax],av])) (hds:∀ W,Bl w W->Calls prog 59 #[ptr aq,.agg #[av,I J k,I J t,C u,C o,I J n,I J st,ax,ax,ax,av,av,av,av,ax]] W λe w'=>e= .returned (I J cd)/\SX w' B s p b S' g' x' ev' nt'/\KF [s,p,b] W w'),Calls prog 37 #[ptr aq,C τ] w λe w'=>e= .returned (.agg #[I J cd,aw,ax,av,.bool z])/\SX w' B s p b S' g' x' ev' nt'/\KF [s,p,b] w w')/\
 (∀ {w:World} {B s p b aq:Nat} {S S':Dk} {g g':Sg} {x x':St} {ev nt na ev' nt':Int} {vo vu vs vt:Value} {ul:List UC} (h:SA w B s p b S g x ev nt na vo vu vs vt ul) (hD:Bk w aq 96 #[ptr s]) (hdn:S.down=z) (cd:Int) (τ:ay) (hrd:∀ W,Bl w W->aai 55 #[C τ] W (.tuple #[.agg #[I J 1,av,av,ax,ax,av,av,ax,ax,ax,av,av,av,av,ax],av])) (hds:∀ W,Bl w W->Calls prog 59 #[ptr aq,.agg #[I J 1,av,av,ax,ax,av,av,ax,ax,ax,av,av,av,av,ax]] W λe w'=>e= .returned (I J cd)/\SX w' B s p b S' g' x' ev' nt'/\KF [s,p,b] W w'),Calls prog 37 #[ptr aq,C τ] w λe w'=>e= .returned (.agg #[I J cd,aw,ax,av,.bool z])/\SX w' B s p b S' g' x' ev' nt'/\KF [s,p,b] w w')/\
 (∀ (u:ay) {w:World} {B s p b aq:Nat} {S S':Dk} {g g':Sg} {x x':St} {ev nt na ev' nt':Int} {vo vu vs vt:Value} {ul:List UC} (h:SA w B s p b S g x ev nt na vo vu vs vt ul) (hD:Bk w aq 96 #[ptr s]) (hdn:S.down=z) (cd:Int) (τ:ay) (hrd:∀ W,Bl w W->aai 55 #[C τ] W (.tuple #[.agg #[I J 3,av,av,ax,ax,av,av,C u,ax,ax,av,av,av,av,ax],av])) (hds:∀ W,Bl w W->Calls prog 59 #[ptr aq,.agg #[I J 3,av,av,ax,ax,av,av,C u,ax,ax,av,av,av,av,ax]] W λe w'=>e= .returned (I J cd)/\SX w' B s p b S' g' x' ev' nt'/\KF [s,p,b] W w'),Calls prog 37 #[ptr aq,C τ] w λe w'=>e= .returned (.agg #[I J cd,aw,ax,av,.bool z])/\SX w' B s p b S' g' x' ev' nt'/\KF [s,p,b] w w'):=by
 refine⟨?_,?_,?_⟩;intro k t u o n st w B s p b aq S S' g g' x x' ev nt na ev' nt' vo vu vs vt ul h hD hdn cd τ hrd hds;rotate_left;intro w B s p b aq S S' g g' x x' ev nt na ev' nt' vo vu vs vt ul h hD hdn cd τ hrd hds;rotate_left;intro u w B s p b aq S S' g g' x x' ev nt na ev' nt' vo vu vs vt ul h hD hdn cd τ hrd hds;rotate_left
 all_goals
  obtain⟨HP,HD,HRD,HDS⟩:=kB h hD hrd hds;have HDN:=H hdn;obtain⟨Y,V0,hY,hV0,BY,HB,HYw,SV⟩:=gC w #[av,aw,ax,av,.bool z] 86;obtain⟨y0,y1,y2,y3,y4⟩:=wY BY;have HY:=H BY;clear h hD hrd hds hdn
  go_enter func37,ntmps37
  go_upto_region 1 with fail
  rw[<-hV0,<-hY];clear hV0 hY
  go_upto_region 2 with(go_at_call 55;refine qx (HRD _ HB) λw1 hb1=>?_)
 obtain⟨V2,X,hV2,hX,BX,LV2⟩:=iC w1 #[av,I J k,I J t,C u,C o,I J n,I J st,ax,ax,ax,av,av,av,av,ax] 121;rotate_left;obtain⟨V2,X,hV2,hX,BX,LV2⟩:=iC w1 #[I J 1,av,av,ax,ax,av,av,ax,ax,ax,av,av,av,av,ax] 121;rotate_left;obtain⟨V2,X,hV2,hX,BX,LV2⟩:=iC w1 #[I J 3,av,av,ax,ax,av,av,C u,ax,ax,av,av,av,av,ax] 121;rotate_left
 all_goals
  rw[<-hV2,<-hX];clear hV2;replace hX:=H hX;obtain⟨x0,x1,x2,x3,x4,x5,x6,x7,x8,x9,x10,x11,x12,x13,x14⟩:=mE BX;have H2:=H (show Bl V0 V2 from hb1.ca LV2);have HW2:=H (HB.ca H2);have HP2:=H (HP.bl HW2);have d0:=Bk.all (HW2.bl HD) 0 D;have hb2:=br V2;obtain⟨DI,DW,DS⟩:=gi (po HP2) (show Calls prog 56 #[ptr p] V2 λe w'=>e= .returned (.bool z)/\V2=w' from by have:=nj HP2.dk;rwa[HDN.out] at this) (HDS V2 HW2)
  go_upto_region 10 with(first | (go_at_call 40;refine QS DI ?_) | (go_at_call 56;refine QS DW ?_))
  have HYn:=H (HP2.ne (H2.bl HY) dc dc);have KY:=H (λW (hW:KF [s,p,b] V2 W)=>hW.hp (H2.bl HY) (by have h1:=HYn.out;simp[h1.1,h1.2.1,h1.2.2]))
  go_wp2_with (go_at_call 59;refine DS.mono ?_;rintro e w9 ⟨rfl,hs9,hk9⟩;obtain⟨HS9,HK9⟩:=eN hs9 hk9;obtain⟨z0,z1,z2,z3,z4⟩:=Bk.f5 (KY _ hk9);have zf:=λj=>Bk.fr (KY _ hk9) j;clear hs9 hk9)
  exact aa1 (eS (p:=4) D _ _ _ _ _ _ _ D (Bk.s5 (KY _ HK9) _ _ _ _ _) underlying86 D pg) D ⟨D,HS9.aaf (KY _ HK9) _ _ _ _ _,((KF.of HW2).ca HK9).Lq fD _ _ _ _ _⟩
theorem Zb (w):aai 202 #[aw] w aw:=by
 have hq:∀ W:World,Sem.run prog (binOp BinOp.eql 126 (Value.slice E 0 0) (Value.slice E 0 0)) W=Result.ok (.bool Q) W:=λW=>by kernel_rfl
 go_enter func202,ntmps202
 exact aaY
theorem Y8 (w):aai 203 #[aw] w aw:=by
 have hq:∀ W:World,Sem.run prog (binOp BinOp.eql 127 (Value.slice E 0 0) (Value.slice E 0 0)) W=Result.ok (.bool Q) W:=λW=>by kernel_rfl
 go_enter func203,ntmps203
 exact aaY
theorem Za (w):aai 204 #[aw] w aw:=by
 have hq:∀ W:World,Sem.run prog (binOp BinOp.eql 128 (Value.slice E 0 0) (Value.slice E 0 0)) W=Result.ok (.bool Q) W:=λW=>by kernel_rfl
 go_enter func204,ntmps204
 exact aaY
theorem Y9 (w):aai 205 #[aw] w aw:=by
 have hq:∀ W:World,Sem.run prog (binOp BinOp.eql 129 (Value.slice E 0 0) (Value.slice E 0 0)) W=Result.ok (.bool Q) W:=λW=>by kernel_rfl
 go_enter func205,ntmps205
 exact aaY
theorem Xw (w):aai 123 #[.agg #[av,av,aw,aw,aw,aw]] w (.agg #[av,av,aw,aw,aw,aw]):=by
 obtain⟨CO,CU,CS,CT⟩:=kB Zb Y8 Za Y9;obtain⟨X,V,hX,hV,BX,BY,HB,HXw,SV⟩:=lj w #[av,av,aw,aw,aw,aw] 131 #[av,av,aw,aw,aw,aw] 131;obtain⟨x0,x1,x2,x3,x4,x5⟩:=jg BX;obtain⟨y0,y1,y2,y3,y4,y5⟩:=jg BY;obtain⟨HBX,HBY⟩:=eN BX BY;clear BX BY y0 y1 y2 y3 y4 y5;have HYS:YS w X 131 6 V:=⟨HB,by rw[HXw.out];exact aB _,_,HBX,D⟩;obtain⟨F,hF⟩:=YS.fn w X 131 6;have z2:=λW (h:YS w X 131 6 W)=>hF W h 2 dc;have z3:=λW (h:YS w X 131 6 W)=>hF W h 3 dc;have z4:=λW (h:YS w X 131 6 W)=>hF W h 4 dc;have z5:=λW (h:YS w X 131 6 W)=>hF W h 5 dc;have zf:=λW j (h:YS w X 131 6 W)=>h.fr j;clear hF
 go_enter func123,ntmps123
 go_upto_region 1 with fail
 rw[<-hV,<-hX];clear hV hX;refine jI (T:=YS w X 131 6) (S:=Bl V) [13,15,17,19] HYS.dr Bl.eH.dr λhT0 hS0=>?_
 try dsimp only at hT0 hS0
 refine qd 0 ?_;refine td 1 ?_;refine qd 3 ?_;refine td 4 ?_;refine qd 6 ?_;refine td 7 ?_;refine qd 9 ?_;refine td 10 ?_;refine eK 2 λKQ hK=>?_;go_simp
 (go_at_call 202;refine qx (CO _) λw1 hb1=>?_)
 have hT1:=hT0.ca hb1;have hS1:=hS0.ca hb1;refine kq hK ?_;clear hK KQ;refine qd 12 ?_;refine eK 5 λKQ hK=>?_;go_simp
 (go_at_call 203;refine qx (CU _) λw2 hb2=>?_)
 have hT2:=hT1.ca hb2;have hS2:=hS1.ca hb2;refine kq hK ?_;clear hK KQ;refine eK 8 λKQ hK=>?_;go_simp
 (go_at_call 204;refine qx (CS _) λw3 hb3=>?_)
 have hT3:=hT2.ca hb3;have hS3:=hS2.ca hb3;refine kq hK ?_;clear hK KQ;refine eK 11 λKQ hK=>?_;go_simp
 (go_at_call 205;refine qx (CT _) λw4 hb4=>?_)
 have hT4:=hT3.ca hb4;have hS4:=hS3.ca hb4;refine kq hK ?_;clear hK KQ;refine eK 13 λKQ hK=>?_;go_simp;refine fJ (hK _ _) (hT4.st _ _) (eI (j:=13) kr kr) (λhT5=>?_)
 try dsimp only at hT5
 clear hK
 try simp only[fI]
 refine tz 14 hT5 (eI (j:=13) kr kr) ?_;refine eK 15 λKQ hK=>?_;go_simp;refine fJ (hK _ _) (hT5.st _ _) (eI (j:=15) kr kr) (λhT6=>?_)
 try dsimp only at hT6
 clear hK
 try simp only[fI]
 refine tz 16 hT6 (eI (j:=15) kr kr) ?_;refine eK 17 λKQ hK=>?_;go_simp;refine fJ (hK _ _) (hT6.st _ _) (eI (j:=17) kr kr) (λhT7=>?_)
 try dsimp only at hT7
 clear hK
 try simp only[fI]
 refine tz 18 hT7 (eI (j:=17) kr kr) ?_;refine eK 19 λKQ hK=>?_;go_simp;refine fJ (hK _ _) (hT7.st _ _) (eI (j:=19) kr kr) (λhT8=>?_)
 try dsimp only at hT8
 clear hK
 try simp only[fI]
 refine iU ?_;have hT:=H hT8;have hW4:Bl V w4:=(((hS0.ca hb1).ca hb2).ca hb3).ca hb4;have hXle:w.heap.size<=X:=by rw[HXw.out];exact aB _
 have k5:=Bk.put (Bk.put (Bk.put (Bk.put (hW4.bl HBX) 2 aw) 3 aw) 4 aw) 5 aw;have fw:∀ (W:World) (i:Nat) (u:Value),Bk W (X+1) 131 #[av,av,aw,aw,aw,aw]->Bk (W.setCell ⟨X,i,E⟩ u) (X+1) 131 #[av,av,aw,aw,aw,aw]:=λW i u k=>(aa0 W ⟨X,i,E⟩ u (X+1) (by show X+1≠X;omega)).trans k;have y5:=fw _ 5 aw (fw _ 4 aw (fw _ 3 aw (fw _ 2 aw (hW4.bl HBY))));have l5:=((((HB.ca hW4).st (p:=⟨X,2,E⟩) hXle aw).st (p:=⟨X,3,E⟩) hXle aw).st (p:=⟨X,4,E⟩) hXle aw).st (p:=⟨X,5,E⟩) hXle aw;clear hT0 hS0 hT1 hS1 hT2 hS2 hT3 hS3 hT4 hS4 hT5 hT6 hT7 hT8 hb1 hb2 hb3 hb4 hT hW4 fw x0 x1 x2 x3 x4 x5 z2 z3 z4 z5 zf HYS;generalize (((w4.setCell ⟨X,2,E⟩ aw).setCell ⟨X,3,E⟩ aw).setCell ⟨X,4,E⟩ aw).setCell ⟨X,5,E⟩ aw=W5 at*;have K5:Bk W5 X 131 #[av,av,aw,aw,aw,aw]:=k5;obtain⟨x0,x1,x2,x3,x4,x5⟩:=Bk.f6 K5;obtain⟨y0,y1,y2,y3,y4,y5'⟩:=Bk.f6 y5;have yf:=λj=>Bk.fr y5 j;obtain⟨HY5,HL5,HXle⟩:=gi y5 l5 hXle;clear k5 K5 y5 l5 hXle
 go_wp2_with fail
 go_loopw [23] (λi wr=>i= I J 0/\wr=W5) (λ_ _=>0)
 case atStart=>exact⟨D,D⟩
 case round=>
  obtain⟨rfl,rfl⟩:=hrel
  go_wp2_with fail
  exact aa1 (eS (p:=2) D _ _ _ _ _ _ _ D (Bk.s6 HY5 _ _ _ _ _ _) underlying131 D iy) D ⟨D,HL5.kO (Nat.le_succ_of_le HXle) _ _ _ _ _ _⟩
theorem NI (w):aai 165 #[.agg #[av,av,aw,aw,aw,aw]] w (.agg #[av,av,aw,aw,aw,aw]):=by
 have CL:=H Xw;obtain⟨A,W0,hA,hW0,BA,BY,HB,HAw,SV⟩:=lj w #[av,av,aw,aw,aw,aw] 131 #[av,av,aw,aw,aw,aw] 131;obtain⟨a0,a1,a2,a3,a4,a5⟩:=jg BA;obtain⟨y0,y1,y2,y3,y4,y5⟩:=jg BY;obtain⟨HA,HY⟩:=eN BA BY;have hb0:=br W0;have ff:=λW (h:Bl W0 W) j=>Bk.fr (h.bl HA) j
 go_enter func165,ntmps165
 go_upto_region 1 with fail
 rw[<-hW0,<-hA];clear hW0 hA
 go_upto_region 2 with(go_at_call 123;refine qx (CL _) λw1 hb1=>?_)
 have hAle:w.heap.size<=A:=by rw[HAw.out];exact aB _
 have l1:=(HB.ca hb1).kO (Y:=A) hAle av av aw aw aw aw;have k1:=Bk.s6 (hb1.bl HA) av av aw aw aw aw;have kf:=λ(W:World) (i:Nat) (v:Value) (k:Bk W (A+1) 131 #[av,av,aw,aw,aw,aw])=>show Bk (W.setCell ⟨A,i,E⟩ v) (A+1) 131 _ from(aa0 W ⟨A,i,E⟩ v (A+1) iJ).trans k;have y1:=kf _ 5 aw (kf _ 4 aw (kf _ 3 aw (kf _ 2 aw (kf _ 1 av (kf _ 0 av (hb1.bl HY))))));unfold kS at l1 k1;generalize (((((w1.setCell ⟨A,0,E⟩ av).setCell ⟨A,1,E⟩ av).setCell ⟨A,2,E⟩ aw).setCell ⟨A,3,E⟩ aw).setCell ⟨A,4,E⟩ aw).setCell ⟨A,5,E⟩ aw=W1 at*;have g2:=k1.ce 2;have gf:=λj=>Bk.fr k1 j;obtain⟨K1,HL,HY1,HAle⟩:=kB k1 l1 y1 hAle;clear hAle
 go_wp2_with fail
 go_loopw [13] (λi wr=>i= I J 0/\wr=W1) (λ_ _=>0)
 case atStart=>exact⟨D,D⟩
 case round=>
  obtain⟨rfl,rfl⟩:=hrel
  go_upto_region 9 with fail
  have k2:Bk _ A 131 #[av,av,aw,aw,aw,aw]:=Bk.put K1 2 aw;have l2:=HL.st (p:=⟨A,2,E⟩) HAle aw;have kY:Bk _ (A+1) 131 _:=(aa0 wr ⟨A,2,E⟩ aw (A+1) iJ).trans HY1;generalize wr.setCell ⟨A,2,E⟩ aw=W2 at*;obtain⟨g0,g1,g2,g3,g4,g5⟩:=Bk.f6 k2;obtain⟨e0,e1,e2,e3,e4,e5⟩:=Bk.f6 kY;have ef:=λj=>Bk.fr kY j;obtain⟨KY,HL2⟩:=eN kY l2;clear kY
  go_wp2_with fail
  exact aa1 (eS (p:=2) D _ _ _ _ _ _ _ D (Bk.s6 KY _ _ _ _ _ _) underlying131 D iy) D ⟨D,HL2.kO (Nat.le_succ_of_le HAle) _ _ _ _ _ _⟩
theorem uc:(prog.info? 135).map (·.size)=G 9:=kr
theorem Bk.f9(h:Bk W A t #[c0,c1,c2,c3,c4,c5,c6,c7,c8]):W.cell? ⟨A,0,E⟩=G c0/\W.cell? ⟨A,1,E⟩=G c1/\W.cell? ⟨A,2,E⟩=G c2/\W.cell? ⟨A,3,E⟩=G c3/\W.cell? ⟨A,4,E⟩=G c4/\W.cell? ⟨A,5,E⟩=G c5/\W.cell? ⟨A,6,E⟩=G c6/\W.cell? ⟨A,7,E⟩=G c7/\W.cell? ⟨A,8,E⟩=G c8:=
 ⟨h.ce 0,h.ce 1,h.ce 2,h.ce 3,h.ce 4,h.ce 5,h.ce 6,h.ce 7,h.ce 8⟩
abbrev No (W:World)(A:Nat)(d0 d1 d2 d3 d4 d5 d6 d7 d8:Value):World:=(((((((((W.setCell ⟨A,0,E⟩ d0).setCell ⟨A,1,E⟩ d1).setCell ⟨A,2,E⟩ d2).setCell ⟨A,3,E⟩ d3).setCell ⟨A,4,E⟩ d4).setCell ⟨A,5,E⟩ d5).setCell ⟨A,6,E⟩ d6).setCell ⟨A,7,E⟩ d7).setCell ⟨A,8,E⟩ d8)
theorem Bk.s9(h:Bk W A t #[c0,c1,c2,c3,c4,c5,c6,c7,c8])(d0 d1 d2 d3 d4 d5 d6 d7 d8):Bk (No W A d0 d1 d2 d3 d4 d5 d6 d7 d8) A t #[d0,d1,d2,d3,d4,d5,d6,d7,d8]:=(Bk.put (Bk.put (Bk.put (Bk.put (Bk.put (Bk.put (Bk.put (Bk.put (Bk.put h 0 d0) 1 d1) 2 d2) 3 d3) 4 d4) 5 d5) 6 d6) 7 d7) 8 d8)
theorem Bl.s9(h:Bl V W)(hA:V.heap.size<=A)(d0 d1 d2 d3 d4 d5 d6 d7 d8):Bl V (No W A d0 d1 d2 d3 d4 d5 d6 d7 d8):=(Bl.st (Bl.st (Bl.st (Bl.st (Bl.st (Bl.st (Bl.st (Bl.st (Bl.st h (p:=⟨A,0,E⟩) hA d0) (p:=⟨A,1,E⟩) hA d1) (p:=⟨A,2,E⟩) hA d2) (p:=⟨A,3,E⟩) hA d3) (p:=⟨A,4,E⟩) hA d4) (p:=⟨A,5,E⟩) hA d5) (p:=⟨A,6,E⟩) hA d6) (p:=⟨A,7,E⟩) hA d7) (p:=⟨A,8,E⟩) hA d8)
theorem G9 (w):Calls prog 160 #[aw] w λe w'=>e= .returned av/\w=w':=by
 go_enter func160,ntmps160
 go_wp2_with fail
 go_loopw [8] (λi wr=>i= I J 0/\wr=w) (λ_ _=>0)
 case atStart=>exact⟨D,D⟩
 case round=>
  obtain⟨rfl,rfl⟩:=hrel;exact gN
theorem Yh (p:Nat)(A1 A2)(c1 c2:Nat)(w):aai 96 #[ptr p,.agg #[I U 0,av,.bool z,Z A1 0 c1,Z A2 0 c2]] w av:=by
 have F9:=H G9;obtain⟨X,V0,hX,hV0,BX,BY,HB,HXw,SV⟩:=lj w #[ptr p] 75 #[I U 0,av,.bool z,Z A1 0 c1,Z A2 0 c2] 179;have x0:=BX.all 0 D;obtain⟨y0,y1,y2,y3,y4⟩:=wY BY;have hb0:=br V0
 go_enter func96,ntmps96
 go_upto_region 1 with fail
 rw[<-hV0,<-hX];clear hV0 hX
 go_wp2_with fail
 go_loopw [14,5] (λi o wr=>i= I J 0/\o= Z E 0 0/\wr=V0) (λ_ _ _=>0)
 case atStart=>exact⟨D,D,D⟩
 case round=>
  obtain⟨rfl,rfl,rfl⟩:=hrel
  go_wp2_with fail
  go_loopw [26,5] (λi o wr'=>i= I J 0/\o= Z E 0 0/\wr'=wr) (λ_ _ _=>0)
  case atStart=>exact⟨D,D,D⟩
  case round=>
   obtain⟨rfl,rfl,rfl⟩:=hrel
   go_wp2_with (go_at_call 160;refine QS (F9 _) ?_)
   go_ret;exact⟨D,HB⟩
theorem SF (p:Nat)(A1 A2)(c1 c2:Nat)(w):aai 97 #[ptr p,.agg #[I U 0,av,.bool z,Z A1 0 c1,Z A2 0 c2]] w (.tuple #[.agg #[av,av,aw,aw,aw,aw,I U 0,av,av],av]):=by
 obtain⟨F9,RS⟩:=eN G9 NI;obtain⟨X,V0,hX,hV0,BX,BY,BZ,HB,HXw,SV⟩:=qh w #[ptr p] 75 #[I U 0,av,.bool z,Z A1 0 c1,Z A2 0 c2] 179 #[av,av,aw,aw,aw,aw,I U 0,av,av] 135;have x0:=BX.all 0 D;obtain⟨y0,y1,y2,y3,y4⟩:=wY BY;obtain⟨z0,z1,z2,z3,z4,z5,z6,z7,z8⟩:=Rg BZ;have HZ:=H BZ;have hb0:=br V0
 go_enter func97,ntmps97
 go_upto_region 1 with fail
 rw[<-hV0,<-hX];clear hV0 hX
 go_upto_region 2 with fail
 obtain⟨V2,an,hV2,hG,BG,LV2⟩:=iC V0 #[av,av,aw,aw,aw,aw,I U 0,av,av] 135;rw[<-hV2,<-hG];clear hV2;replace hG:=H hG;obtain⟨g0,g1,g2,g3,g4,g5,g6,g7,g8⟩:=Rg BG;have HG:=H BG;have hb2:Bl V0 V2:=LV2.out;have hb22:=br V2
 go_upto_region 6 with fail
 go_loopw [20,7] (λi o wr=>i= I J 0/\o= Z E 0 0/\wr=V2) (λ_ _ _=>0)
 case atStart=>exact⟨D,D,D⟩
 case round=>
  obtain⟨rfl,rfl,rfl⟩:=hrel
  go_upto_region 14 with(first | (go_at_call 160;refine QS (F9 _) ?_) | (go_at_call 165;refine qx (RS _) λw1 hb1=>?_;have HG1:=H (hb1.bl HG);obtain⟨f0,f1,f2,f3,f4,f5,_,_,_⟩:=Bk.f9 HG1;have ff:=λj=>Bk.fr HG1 j))
  have K6:Bk ((((((w1.setCell ⟨an,0,E⟩ av).setCell ⟨an,1,E⟩ av).setCell ⟨an,2,E⟩ aw).setCell ⟨an,3,E⟩ aw).setCell ⟨an,4,E⟩ aw).setCell ⟨an,5,E⟩ aw) an 135 #[av,av,aw,aw,aw,aw,I U 0,av,av]:=Bk.put (Bk.put (Bk.put (Bk.put (Bk.put (Bk.put HG1 0 av) 1 av) 2 aw) 3 aw) 4 aw) 5 aw;have hGV:V0.heap.size<=an:=by rw[hG.out];exact aB _
  have L6:=(hb2.ca hb1).kO hGV av av aw aw aw aw;unfold kS at L6;generalize ((((((w1.setCell ⟨an,0,E⟩ av).setCell ⟨an,1,E⟩ av).setCell ⟨an,2,E⟩ aw).setCell ⟨an,3,E⟩ aw).setCell ⟨an,4,E⟩ aw).setCell ⟨an,5,E⟩ aw)=W6 at K6 L6 ⊢;have HZ6:=H (L6.bl HZ);obtain⟨q0,q1,q2,q3,q4,q5,q6,q7,q8⟩:=Bk.f9 K6;obtain⟨r0,r1,r2,r3,r4,r5,r6,r7,r8⟩:=Bk.f9 HZ6;have rf:=λj=>Bk.fr HZ6 j;have HL6:=H L6
  go_wp2_with fail
  exact aa1 (eM (p:=4) (a:=5) D _ _ _ _ _ _ _ D (Bk.s9 HZ6 _ _ _ _ _ _ _ _ _) underlying135 D uc) D ⟨D,(HB.ca HL6).s9 (by have:=HXw.out;omega) _ _ _ _ _ _ _ _ _⟩
theorem Xj{p:Nat}(h:eF w p b (kJ ld)):Calls prog 60 #[ptr p] w λe w'=>∃ A c,e= .returned (Z A 0 c)/\Bl w w':=by
 refine(Ds.vj h ((Ds.Iv.new ld).bd om)).mono ?_;rintro e w' ⟨v,rfl,⟨A,c,rfl,_⟩,hb⟩;exact⟨A,c,D,hb⟩
theorem aad (w)(A)(c:Nat):Calls prog 95 #[Z A 0 c] w λe w'=>∃ A1 c1 A2 c2,e= .returned (.agg #[I U 0,av,.bool z,Z A1 0 c1,Z A2 0 c2])/\Bl w w':=by
 refine(SgM.Bv (F:=[]) (w:=w) (v:=Z A 0 c) ⟨A,c,D,λh=>absurd D h⟩ dc).mono ?_;rintro e w' ⟨vs,vt,rfl,h1,h2,hb⟩;obtain⟨A1,c1,rfl⟩:=SgM.im h1;obtain⟨A2,c2,rfl⟩:=SgM.im h2;exact⟨A1,c1,A2,c2,D,hb⟩
theorem YL (w)(A1 A2)(c1 c2:Nat):aai 98 #[.agg #[I U 0,av,.bool z,Z A1 0 c1,Z A2 0 c2]] w av:=by
 refine qx (SgM.qF (o:=E) (L:=[]) (vs:=Z A1 0 c1) (B:=A2) (nt:=0) (ct:=c2) ⟨A1,c1,D,λh=>absurd D h⟩ dc dc) λw' hb=>?_;exact⟨aP (λau=>Ending.returned (I J au)) (show Tj z 0 []=0 by decide+kernel),hb⟩
theorem dk9{p:Nat}{S}(h:eF w p b S)(np:s≠p)(nb:s≠b)(d0 d1 d2 d3 d4 d5 d6 d7 d8):eF (No w s d0 d1 d2 d3 d4 d5 d6 d7 d8) p b S:=(Own.fr (Own.fr (Own.fr (Own.fr (Own.fr (Own.fr (Own.fr (Own.fr (Own.fr h np nb 0 d0) np nb 1 d1) np nb 2 d2) np nb 3 d3) np nb 4 d4) np nb 5 d5) np nb 6 d6) np nb 7 d7) np nb 8 d8)
theorem KF.s9(h:KF F V w)(hY:V.heap.size<=Y)(d0 d1 d2 d3 d4 d5 d6 d7 d8):KF F V (No w Y d0 d1 d2 d3 d4 d5 d6 d7 d8):=by
 have st:∀ {W:World} (i:Nat) (v:Value),KF F V W->KF F V (W.setCell ⟨Y,i,E⟩ v):=λ{W} i v h=>
  ⟨h.os,h.tape,h.output,jv,λk hk hn=>(aa0 W ⟨Y,i,E⟩ v k (by show k≠Y;omega)).trans (h.block k hk hn)⟩
 exact(st 8 d8 (st 7 d7 (st 6 d6 (st 5 d5 (st 4 d4 (st 3 d3 (st 2 d2 (st 1 d1 (st 0 d0 h)))))))))
theorem aab (ld:Int):(jY (kJ ld) (SgM.fS ⟨114,0⟩)).2=0:=kr
theorem WO{p:Nat}(h:eF w p b (kJ ld)):Calls prog 61 #[ptr p] w λe w'=>e= .returned (.tuple #[.agg #[av,av,aw,aw,aw,aw,I U 114,av,av],av])/\eF w' p b (jY (kJ ld) (SgM.fS ⟨114,0⟩)).1/\KF [p,b] w w':=by
 obtain⟨X,V0,hX,hV0,BX,HB,HXw,SV⟩:=gC w #[av,av,aw,aw,aw,aw,I U 0,av,av] 135;obtain⟨x0,x1,x2,x3,x4,x5,x6,x7,x8⟩:=Rg BX;obtain⟨HRX,HPW,HD⟩:=gi BX (show p<w.heap.size/\b<w.heap.size from⟨h.fo.lt,h.own.lt⟩) (h.fp HB);obtain⟨DW,FL,LY,TD⟩:=kB (show Calls prog 56 #[ptr p] V0 (λe w'=>e= .returned (.bool z)/\V0=w') from nj HD) (λW (hW:Bl V0 W)=>Xj (HD.fp hW)) aad (Yh p);obtain⟨RP,NX,NM⟩:=gi (SF p) YL (λW=>(show aai 100 #[.agg #[I U 114,av]] W (C (SgM.fS ⟨114,0⟩)) from SgM.ji ⟨114,0⟩ W ⟨dc,dc⟩));have CR:=λW (hW:Bl V0 W)=>Ds.ox (HD.fp hW) ((Ds.Iv.new ld).bd om) (n:=SgM.fS ⟨114,0⟩) kQ;unfold Ds.jE at CR;rw[aab] at CR;replace CR:=H CR;clear h
 go_enter func61,ntmps61
 go_upto_region 1 with fail
 rw[<-hV0,<-hX];clear hV0 hX
 go_upto_region 3 with(go_at_call 56;refine QS DW ?_)
 go_upto_region 4 with(first | (go_at_call 60;refine(FL _ Bl.eH).mono ?_;rintro e w1 ⟨A0,c0,rfl,hb1⟩) | (go_at_call 95;refine(LY _ _ _).mono ?_;rintro e w2 ⟨A1,c1,A2,c2,rfl,hb2⟩))
 have HL2:=H (hb1.ca hb2);obtain⟨V2,Y,hV2,hY,BY,LV2⟩:=iC w2 #[I U 0,av,.bool z,Z A1 0 c1,Z A2 0 c2] 179;rw[<-hV2,<-hY];clear hV2;replace hY:=H hY;obtain⟨y0,y1,y2,y3,y4⟩:=wY BY;obtain⟨HY,HL⟩:=eN BY (HL2.ca LV2);have hb22:=br V2
 go_upto_region 7 with(go_at_call 96;refine qx (TD _ _ _ _ _) λw3 hb3=>?_)
 go_upto_region 8 with(go_at_call 97;refine qx (RP _ _ _ _ _) λw4 hb4=>?_)
 obtain⟨HC4,HY4⟩:=eN (HL.ca (hb3.ca hb4)) ((hb3.ca hb4).bl HY);obtain⟨V4,ag,hV4,hZ,BZ,LV4⟩:=iC w4 #[av,av,aw,aw,aw,aw,I U 0,av,av] 135;rw[<-hV4,<-hZ];clear hV4;replace hZ:=H hZ;obtain⟨z0,z1,z2,z3,z4,z5,z6,z7,z8⟩:=Rg BZ;have HZ4:=H BZ;obtain⟨y0,y1,y2,y3,y4⟩:=Bk.f5 (LV4.bl HY4)
 go_upto_region 11 with(go_at_call 98;refine qx (NX _ _ _ _ _) λw5 hb5=>?_;have HZ5:=H (hb5.bl HZ4);have zf:=λj=>Bk.fr HZ5 j;obtain⟨z0,z1,z2,z3,z4,z5,z6,z7,z8⟩:=Bk.f9 HZ5)
 have K6:Bk ((w5.setCell ⟨ag,6,E⟩ (I U 114)).setCell ⟨ag,7,E⟩ av) ag 135 #[av,av,aw,aw,aw,aw,I U 114,av,av]:=Bk.put (Bk.put HZ5 6 (I U 114)) 7 av;have hXZ:=H (show X<ag by rw[hZ.out,HXw.out];exact bK (by rw[SV.out,HXw.out];omega) HC4.size);have hZ:w4.heap.size<=ag:=by rw[hZ.out];exact aB _
 have L6:=((LV4.ca hb5).st (p:=⟨ag,6,E⟩) hZ (I U 114)).st (p:=⟨ag,7,E⟩) hZ av;generalize (w5.setCell ⟨ag,6,E⟩ (I U 114)).setCell ⟨ag,7,E⟩ av=W6 at*;obtain⟨y0,y1,y2,y3,y4⟩:=Bk.f5 (L6.bl HY4);obtain⟨z0,z1,z2,z3,z4,z5,z6,z7,z8⟩:=Bk.f9 K6;obtain⟨HK6,HL6⟩:=eN K6 L6
 go_upto_region 17 with fail
 go_upto_region 18 with(first | (go_at_call 100;refine qx (NM W6) λw7 hb7=>?_) | (go_at_call 101;refine(CR _ (HC4.ca (HL6.ca hb7))).mono ?_;rintro e w8 ⟨rfl,hd8,hk8⟩))
 have hpw:p<X:=by rw[HXw.out];exact HPW.out.1
 have hbw:b<X:=by rw[HXw.out];exact HPW.out.2
 have hXZ:=hXZ.out;have hK8:KF [p,b] W6 w8:=(KF.of hb7).ca (KF.kp hk8 sm sm);have K8:=KF.hp hK8 HK6 eC;obtain⟨HX8,HK8,HD8⟩:=gi (KF.hp hK8 ((HC4.ca HL6).bl HRX) eC) ((KF.of (HB.ca (HC4.ca HL6))).ca hK8) hd8;clear hK8;obtain⟨z0,z1,z2,z3,z4,z5,z6,z7,z8⟩:=Bk.f9 K8;obtain⟨r0,r1,r2,r3,r4,r5,r6,r7,r8⟩:=Bk.f9 HX8;have rf:=λj=>Bk.fr HX8 j
 go_wp2_with fail
 exact aa1 (eM (p:=2) (a:=3) D _ _ _ _ _ _ _ D (Bk.s9 HX8 _ _ _ _ _ _ _ _ _) underlying135 D uc) D ⟨D,dk9 HD8 om om _ _ _ _ _ _ _ _ _,HK8.s9 (by have:=HXw.out;omega) _ _ _ _ _ _ _ _ _⟩
end Tp
namespace Tp
open Go Go.RowKit Go.Lib
open Ds (Dk eF lg mg jY Iv Bd ptr Kp px kJ)
open Ds.DkM (Fl gG bf)
theorem Vb:(∀ {w:World} {g n c:Nat} (F:Nat->FuncId) (aj:Nat->Array Value) (ar:Nat->World->Prop) (hn:n<=1000) (h0:ar 0 w) (hc:∀ k,k<n->∀ W,ar k W->W.cell? ⟨g,k,E⟩=G (.func (.func (F k)) #[] (aj k))) (hl:∀ k,k<n->∀ W:World,(callFunc (F k) (aj k)).run prog W= .ok (.enter (F k) (aj k)) W) (hst:∀ k,k<n->∀ W,ar k W->Calls prog (F k) (aj k) W λe w'=>e= .returned av/\ar (k+1) w'),Calls prog 160 #[Z (G ⟨g,0,E⟩) n c] w λe w'=>e= .returned av/\ar n w')/\
 (∀ {w:World} {g n c:Nat} (F:Nat->FuncId) (aj:Nat->Value) (ar:Nat->World->Prop) (hn:n<=1000) (h0:ar 0 w) (hc:∀ k,k<n->∀ W,ar k W->W.cell? ⟨g,k,E⟩=G (.func (.func (F k)) #[aj k] #[])) (hl:∀ k,k<n->∀ W:World,(callFunc (F k) #[aj k]).run prog W= .ok (.enter (F k) #[aj k]) W) (hst:∀ k,k<n->∀ W,ar k W->Calls prog (F k) #[aj k] W λe w'=>e= .returned av/\ar (k+1) w'),Calls prog 139 #[Z (G ⟨g,0,E⟩) n c] w λe w'=>e= .returned av/\ar n w'):=by
 refine⟨?_,?_⟩
 all_goals intro w g n c F aj ar hn h0 hc hl hst
 all_goals
  obtain⟨HC,HL,HST,H0⟩:=kB hc hl hst h0;clear hc hl hst
 focus
  go_enter func160,ntmps160
 rotate_left
 focus
  go_enter func139,ntmps139
 rotate_left
 all_goals
  go_wp2_with fail
  go_loopw [8] (λi wr=>∃ k:Nat,k<=n/\i= I J k/\ar k wr) (λi _=>n - (intOf i).toNat)
  case atStart=>exact⟨0,aD _,D,H0⟩
  case round=>
   obtain⟨k,hk,rfl,hq⟩:=hrel;have HQ0:=H hq;clear hq;by_cases hlt:k<n
   ·have c0:=HC k hlt wr HQ0;have l0:=HL k hlt;have HS:=H (HST k hlt wr HQ0);obtain⟨i1,i2⟩:=ln (k:=k) (m:=n) om;generalize F k=f at*;generalize aj k=cc at*
    go_wp2_with fail
    refine HS.mono ?_;rintro e w1 ⟨rfl,hq1⟩;have HQ:=H hq1
    go_wp2_with fail
    exact⟨⟨k+1,hlt,eB,HQ⟩,eE⟩
   ·have ek:k=n:=om;have i1:¬(k:Int)<n:=om;subst ek
    go_wp2_with fail
    go_ret;exact⟨D,HQ0⟩
end Tp
namespace Tp
open Go Go.RowKit Go.Lib CrcM FrM SgM
open Ds (Dk eF lg mg jY Iv Bd ptr Kp px kJ)
open Ds.DkM (Fl gG bf)
def Mh (W:World)(row:Option Nat):Prop:=row=E∨∃ q cs,row=G q/\Bk W q 9 cs
theorem KF.gr{row}(h:KF F V W)(hg:W.grownBy W' row)(hr:∀ q,row=G q->V.heap.size<=q):KF F V W':=
 ⟨hg.os.trans h.os,hg.tape.trans h.tape,hg.output.trans h.output,aH h.size hg.size,λk hk hn=>(hg.block k (bK hk h.size) (λe=>by have:=hr k e.symm;omega)).trans (h.block k hk hn)⟩
theorem qy{v}{row}(h:W.ownsRow b t sz v n xs)(hw:Mh W row)(ht:t≠9)(hg:W.grownBy W' row):W'.ownsRow b t sz v n xs:=by
 rcases hw with rfl | ⟨q,cs,rfl,hq⟩
 ·refine⟨h.1,?_⟩;rcases h.2 with h | ⟨g',cap,cur,hv,hgb,hh,r⟩
  ·exact .inl h
  ·exact .inr ⟨g',cap,cur,hv,hgb,(hg.block g' (aa2.1 hh).1 (by intro e;cases e)).trans hh,r⟩
 ·exact pJ h hq ht hg
theorem SX.G7{p:Nat}{S}{g}{x}{row}(h:SX W B s p b S g x ev nt)(hw:Mh W row)(hg:W.grownBy W' row):SX W' B s p b S g x ev nt:=by
 obtain⟨na,vo,vu,vs,vt,ul,h⟩:=h;have hn:row≠G s/\row≠G p/\row≠G b:=by
  rcases hw with rfl | ⟨q,cs,rfl,hq⟩
  ·exact⟨(by intro e;cases e),(by intro e;cases e),(by intro e;cases e)⟩
  ·obtain⟨n1,n2,n3⟩:=h.ne hq dc dc;exact⟨λe=>n1 (by injection e),λe=>n2 (by injection e),λe=>n3 (by injection e)⟩
 refine⟨na,vo,vu,vs,vt,ul,⟨(hg.block s (aa2.1 h.fo).1 (λe=>hn.1 e.symm)).trans h.fo,⟨(hg.block p h.dk.fo.lt (λe=>hn.2.1 e.symm)).trans h.dk.fo,h.dk.own.block (hg.block b h.dk.own.lt (λe=>hn.2.2 e.symm))⟩,⟨qy h.st.ho hw dc hg,qy h.st.hu hw dc hg,⟨h.st.hl.1,λj h1 h2=>⟨(h.st.hl.2 j h1 h2).1,qy (h.st.hl.2 j h1 h2).2 hw dc hg⟩⟩,qy h.st.hs hw dc hg,qy h.st.ht hw dc hg⟩,h.np,h.nb,aH h.hB hg.size⟩⟩
theorem We{o}{ak}(h:Rw qc 9 1 W b o ak):Mh W o.ownBlock:=by
 rcases h.2 with⟨rfl,_⟩ | ⟨g,cap,cur,rfl,_,hh,_⟩
 ·exact .inl D
 ·exact .inr ⟨g,cur,D,hh⟩
theorem ts{ar:World->Prop}(cd at_:Int)(sn:Bool)(nx:ay)(L:List eP)(hnx:nx≠gE)(hns:nx.size<=100000)(hl:L.length<=1000)(hO:Gb O)(hOw:Bl O w)(hOF:∀ q∈F,O.heap.size<=q)(hQ:∀ W W',Bl W W'->ar W->ar W')
 (h:Calls prog 37 #[ptr aq,C τ] w λe w'=>∃ v,e= .returned (.agg #[I J cd,v,C nx,I J at_,.bool sn])/\Rw eP.cs 112 4 w' 0 v L/\ar w'/\KF F w w'):
 Calls prog 17 #[ptr aq,C τ] w λe w'=>e= .returned (C (oG cd at_ sn nx L))/\ar w'/\KF F w w':=by
 obtain⟨HA,TL,HQ⟩:=gi h (λv W (hr:Rw eP.cs 112 4 W 0 v L) (hk:KF F w W)=>C6 cd at_ sn nx L v 0 W hr (hO.below (hk.yN hOw hOF) (aB _)) hl hnx hns) hQ;clear h hO hOw hOF hQ hnx hns hl
 go_enter func17,ntmps17
 go_wp2_with (first | (go_at_call 37;refine HA.mono ?_;rintro e w1 ⟨v1,rfl,hr1,hq1,hk1⟩) | (go_at_call 36;refine qx (TL _ _ hr1 hk1) λw2 hb2=>?_))
 go_ret;exact⟨D,HQ _ _ hb2 hq1,hk1.bl hb2⟩
theorem xQ(T R:List ay)(v)(b:Nat)(ar:Nat->World->Prop)(hT:Rw qc 9 1 w b v T)(hTF:∀ g cs,Bk w g 9 cs->g∉F)(hlen:T.length=R.length)(hm:T.length<=1000)(hFw:∀ q∈F,q<w.heap.size)
 (h0:ar 0 w) (hbl:∀ k W W',Bl W W'->ar k W->ar k W') (hgr:∀ k W W' row,ar k W->Mh W row->W.grownBy W' row->ar k W')
 (hst:∀ k (hk:k<T.length) (hk':k<R.length) W,KF F w W->ar k W->Calls prog 17 #[ptr aq,C T[k]] W λe w'=>e= .returned (C R[k])/\ar (k+1) w'/\KF F W w'):
 Calls prog 14 #[ptr aq,v] w λe w'=>∃ v',e= .returned v'/\Rw qc 9 1 w' 0 v' R/\ar T.length w'/\KF F w w':=by
 obtain⟨A,cap,rfl,hnc,hcap⟩:=hT.form;have HR:=H hT;obtain⟨m,hmm,HM⟩:=nh T.length;rw[<-hmm] at hnc hm hlen ⊢;obtain⟨HN,HTF,HG,HL⟩:=kB hlen hTF hgr hbl;obtain⟨HS,H0,HF⟩:=gi hst h0 hFw;clear hT hmm hlen hgr hbl hst h0 hTF hFw
 go_enter func14,ntmps14
 go_wp2_with fail
 go_loopw [10,5] (λi o wr=>∃ k:Nat,k<=m/\i= I J k/\Rw qc 9 1 wr w.heap.size o (R.take k)/\ar k wr/\KF F w wr) (λi _ _=>m - (intOf i).toNat)
 case atStart=>exact⟨0,aD _,D,Rw.nil,H0,KF.eH⟩
 case round=>
  obtain⟨k,hk,rfl,ho,hq,hb⟩:=hrel;by_cases hlt:k<m
  ·have hk':k<T.length:=by rw[<-HM.out];exact hlt
   have hkr:k<R.length:=by rw[<-HN.out];exact hlt
   obtain⟨g,rfl,_,hgl,c0⟩:=HR.Js (f:=qc) (c0:=λx=>C x) (λ_=>rfl) k hk';have hgF:g∉F:=by
    obtain⟨cur,hB,_,_⟩:=HR.cur;exact HTF g cur hB
   have q0:=hb.ce (c0 w Bl.eH) hgF;have FT:=H (show R.take (k+1)=R.take k++[R[k]] from aL hkr);have hlen:(R.take k).length<=k:=by rw[aK];exact dM _ _
   have HH:=H (HS k hk' hkr wr hb hq);generalize T[k]=x at*;generalize R[k]=r at*;obtain⟨i1,i2⟩:=ln (k:=k) (m:=m) om;obtain⟨HB,HO⟩:=eN hb ho;clear hb ho c0 hgF hq
   go_wp2_with (first | (go_at_call 17;refine HH.mono ?_;rintro e w1 ⟨rfl,hq1,hk1⟩;obtain⟨HO1,HK1⟩:=eN (hk1.rw HO HF) (HB.ca hk1)) | (at_builtin;refine QY xi D _ _ D w.heap.size (HO1.bl (gl _ _)) D D (eL _ _) (y:=r) D D (AW _) om ((HK1.al _).size) ?_;intro v7 w7 ho7 hg7))
   have hgw:=We (HO1.bl (gl w1 (.cells #[C r] 9)));exact⟨⟨k+1,hlt,eB,by rw[FT.out];exact ho7,HG _ _ _ _ (HL _ _ _ (gl _ _) hq1) hgw hg7,(HK1.al _).gr hg7 (λq hq=>(HO1.lt q hq).1)⟩,eE⟩
  ·have ek:k=m:=om;have i1:¬(k:Int)<m:=om;have HB:=H hb;rw[ek,HN.out,aT] at ho;obtain⟨HO,HQ⟩:=eN ho (ek▸hq);clear hb ho hq
   go_wp2_with fail
   go_ret;exact⟨_,D,HO.iD,HQ,HB⟩
