/- Lemmas for AfterglowSecret: what functions of the program return; no condition. -/
import Derived.Lib.ItoaLen
import Derived.Test.YtkpdknkidnfgiaaGreatDoorJD
import Derived.Test.YtkpdknkidnfgiaaGreatDoorJH
set_option maxHeartbeats 0
set_option maxRecDepth 100000
set_option linter.unusedVariables false
open Go.Value renaming int->I,string->C,slice->Z
open Go.IntKind renaming i64->J,u8->U
open Option renaming none->E,some->G
open Bool renaming true->Q,false->z
open Go.Lib renaming hid->H
open Go.Proofs.Tryz
namespace Go.Proofs.YtkpdknkidnfgiaaGreatDoor
theorem qJ{p:Prop}(h:p:=by
 intro k n hk hn;show gG (ja S.L _) _=E;rw[jW h.iv.oB _ (Oy hk h.ok (λe=>by have:=aP Sg.n e;simp only at this;omega))];exact h.no k n hk hn):p:=h
theorem rN{p:Prop}(h:p:=by
 unfold lI at hx
 split at hx
 ·simp at hx;rcases hx with rfl | rfl<;>omega
 split at hx
 ·simp at hx;subst hx;omega
 split at hx
 ·simp at hx;subst hx;omega
 split at hx
 ·simp at hx;rcases hx with rfl | rfl<;>omega
 ·simp at hx;rcases hx with rfl | rfl | rfl<;>omega):p:=h
theorem oc{p:Prop}(h:p:=by
 obtain rfl | rfl | rfl | rfl | rfl | rfl | rfl:k=1∨k=2∨k=3∨k=4∨k=5∨k=6∨k=7:=om
 all_goals decide):p:=h
theorem abG{p:Prop}(h:p:=by
 simp only[e8,iS,cH,cI,iE ht.1 (show t<=1099511627776 by omega),bU]):p:=h
variable {u:ByteArray} {ld:Int} {A N X b:Nat} {V w w' w6:World}
namespace Tp
open Go Go.RowKit CrcM FrM SgM
open Ds (Dk lg mg jY Iv Bd Av qB jD tick eU fP)
open Ds.DkM (Fl gG ja kK jW jP)
theorem Ox {g}(h:sw g=Q):(SgM.fS g).size=9:=by
 rw[eZ,nL,D9 h];simp[gP]
theorem D8 {g}(h:sw g=Q):Av (SgM.fS g)=Q:=by
 obtain⟨h1,h2,h3⟩:=jJ.1 h;unfold Av;rw[Ox h];have:jD (SgM.fS g).data.toList=Q:=by
  unfold jD;rw[nL,D9 h,bD,aM];refine⟨?_,?_⟩
  ·obtain⟨k,n⟩:=g;simp only at h1;unfold Kr at h1;simp only[bV,aN] at h1;unfold qB;simp only[bV,aM,aN];omega
  ·rw[bJ];intro c hc;have hd:=B7 8 g.n.toNat c hc;unfold ig at hd;unfold qB;simp only[bV,aM,aN] at hd ⊢;omega
 rw[this];rfl
theorem Oy {a b}(ha:sw a=Q)(hb:sw b=Q)(h:a≠b):SgM.fS a≠SgM.fS b:=λe=>h (WI ha hb (by rw[<-nL,<-nL,e]))
structure LD (N:Nat)(ld:Int)(g:Sg)(u:Nat)(S:Dk):Prop where
 iv:Iv N S
 ld:S.ld=ld
 jL:S.jL= -1
 down:S.down=z
 has:∃ f,gG S.L (SgM.fS g)=G f
 no:∀ k n,sw ⟨k,n⟩=Q->g.n<n->gG S.L (SgM.fS ⟨k,n⟩)=E
 ok:sw g=Q
 used:S.used<=(u:Nat)
theorem AJ {S:Dk}(h:S.jL= -1):(tick S).jL= -1:=by unfold tick;simp only[h];decide
theorem GM{g}{u:Nat}{S}(h:LD N ld g u S)(t:ay)(hr:(u:Int)+(t.size:Nat)<=ld):(lg S (SgM.fS g) t).2=0/\LD (N+1) ld g (u+t.size) (lg S (SgM.fS g) t).1:=by
 obtain⟨f,hf⟩:=h.has;have hw:Ds.xa S (SgM.fS g) t=0:=by
  unfold Ds.xa;rw[hf];have h1:=h.used;have h2:=h.ld;rw[az sm,az om]
 have e:lg S (SgM.fS g) t=(Ds.Fe S (SgM.fS g) t,0):=by
  unfold lg Ds.zK;rw[hw,h.down,h.jL];rfl
 have hi:=h.iv.lg (SgM.fS g) t;rw[e] at hi ⊢;refine⟨D,hi,?_,?_,?_,?_,?_,h.ok,?_⟩
 ·exact h.ld
 ·exact AJ h.jL
 ·exact h.down
 ·exact⟨_,kK h.iv.oB _⟩
 ·exact qJ
 ·show S.used+(t.size:Nat)<=((u+t.size:Nat):Int);have:=h.used;omega
theorem Tz{g}{u:Nat}{S}(h:LD N ld g u S):(mg S (SgM.fS g)).2=0/\LD (N+1) ld g u (mg S (SgM.fS g)).1:=by
 obtain⟨f,hf⟩:=h.has;have hw:Ds.vN S.L (SgM.fS g)=0:=by unfold Ds.vN;rw[hf];rfl
 have e:mg S (SgM.fS g)=(Ds.LJ S (SgM.fS g),0):=by
  unfold mg Ds.zK;rw[hw,h.down,h.jL];rfl
 have hi:=h.iv.mg (SgM.fS g);rw[e] at hi ⊢;refine⟨D,hi,?_,?_,?_,?_,?_,h.ok,?_⟩
 ·exact h.ld
 ·exact AJ h.jL
 ·exact h.down
 ·exact⟨_,kK h.iv.oB _⟩
 ·exact qJ
 ·exact h.used
theorem WX{g g'}{u:Nat}{S}(h:LD N ld g u S)(hg:sw g'=Q)(hn:g.n<g'.n):(jY S (SgM.fS g')).2=0/\LD (N+1) ld g' u (jY S (SgM.fS g')).1:=by
 have hl:=h.no g'.k g'.n hg hn;have hw:Ds.uI S.L (SgM.fS g')=0:=by
  unfold Ds.uI;rw[D8 hg,show gG S.L (SgM.fS g')=E from hl];rfl
 have e:jY S (SgM.fS g')=({tick S with L:=ja S.L ⟨SgM.fS g',Ds.lE,Ds.lE⟩},0):=by
  unfold jY Ds.zK;rw[hw,h.down,h.jL];rfl
 have hi:=h.iv.jY (SgM.fS g');rw[e] at hi ⊢;refine⟨D,hi,?_,?_,?_,?_,?_,hg,?_⟩
 ·exact h.ld
 ·exact AJ h.jL
 ·exact h.down
 ·exact⟨_,kK h.iv.oB _⟩
 ·intro k n hk hn';show gG (ja S.L _) _=E;rw[jW h.iv.oB _ (Oy hk hg (λe=>by have:=aP Sg.n e;simp only at this;omega))];exact h.no k n hk om
 ·exact h.used
end Tp
namespace Tp
open Go Go.RowKit CrcM FrM
open Ds (Dk lg mg jY Iv Bd Av qB jD tick eU fP)
open Ds.DkM (Fl gG ja kK jW jP)
theorem Ub{o}{k t n s:Int}(h:w.cell? ⟨A,0,E⟩=G (I J k)/\w.cell? ⟨A,1,E⟩=G (I J t)/\w.cell? ⟨A,2,E⟩=G (C u)/\w.cell? ⟨A,3,E⟩=G (C o)/\w.cell? ⟨A,4,E⟩=G (I J n)/\w.cell? ⟨A,5,E⟩=G (I J s)/\Below V.heap.size V w):w.drew.cell? ⟨A,0,E⟩=G (I J k)/\w.drew.cell? ⟨A,1,E⟩=G (I J t)/\w.drew.cell? ⟨A,2,E⟩=G (C u)/\w.drew.cell? ⟨A,3,E⟩=G (C o)/\w.drew.cell? ⟨A,4,E⟩=G (I J n)/\w.drew.cell? ⟨A,5,E⟩=G (I J s)/\Below V.heap.size V w.drew:=
 ⟨h.1,h.2.1,h.2.2.1,h.2.2.2.1,h.2.2.2.2.1,h.2.2.2.2.2.1,nB h.2.2.2.2.2.2⟩
theorem Cd{o}{k t n s:Int}(h:w.cell? ⟨A,0,E⟩=G (I J k)/\w.cell? ⟨A,1,E⟩=G (I J t)/\w.cell? ⟨A,2,E⟩=G (C u)/\w.cell? ⟨A,3,E⟩=G (C o)/\w.cell? ⟨A,4,E⟩=G (I J n)/\w.cell? ⟨A,5,E⟩=G (I J s)/\Below V.heap.size V w)(hb:Below w.heap.size w w'):w'.cell? ⟨A,0,E⟩=G (I J k)/\w'.cell? ⟨A,1,E⟩=G (I J t)/\w'.cell? ⟨A,2,E⟩=G (C u)/\w'.cell? ⟨A,3,E⟩=G (C o)/\w'.cell? ⟨A,4,E⟩=G (I J n)/\w'.cell? ⟨A,5,E⟩=G (I J s)/\Below V.heap.size V w':=
 ⟨(hb.cell (eU h.1)).trans h.1,(hb.cell (eU h.2.1)).trans h.2.1,(hb.cell (eU h.2.2.1)).trans h.2.2.1,(hb.cell (eU h.2.2.2.1)).trans h.2.2.2.1,(hb.cell (eU h.2.2.2.2.1)).trans h.2.2.2.2.1,(hb.cell (eU h.2.2.2.2.2.1)).trans h.2.2.2.2.2.1,h.2.2.2.2.2.2.trans (hb.mono h.2.2.2.2.2.2.size)⟩
theorem Qm{o}{k t n s:Int}(h:w.cell? ⟨A,0,E⟩=G (I J k)/\w.cell? ⟨A,1,E⟩=G (I J t)/\w.cell? ⟨A,2,E⟩=G (C u)/\w.cell? ⟨A,3,E⟩=G (C o)/\w.cell? ⟨A,4,E⟩=G (I J n)/\w.cell? ⟨A,5,E⟩=G (I J s)/\Below V.heap.size V w)(hg:w.grownBy w' (G b))(hb:V.heap.size<=b)(hA:A<V.heap.size):w'.cell? ⟨A,0,E⟩=G (I J k)/\w'.cell? ⟨A,1,E⟩=G (I J t)/\w'.cell? ⟨A,2,E⟩=G (C u)/\w'.cell? ⟨A,3,E⟩=G (C o)/\w'.cell? ⟨A,4,E⟩=G (I J n)/\w'.cell? ⟨A,5,E⟩=G (I J s)/\Below V.heap.size V w':=
 ⟨hg.cell h.1 jy,hg.cell h.2.1 jy,hg.cell h.2.2.1 jy,hg.cell h.2.2.2.1 jy,hg.cell h.2.2.2.2.1 jy,hg.cell h.2.2.2.2.2.1 jy,h.2.2.2.2.2.2.grown hg h.2.2.2.2.2.2.size (λk hk=>aba)⟩
theorem Sa(hB:Below w.heap.size w w6):w6.drew.cell? ⟨A,0,E⟩=w6.cell? ⟨A,0,E⟩/\Below w.heap.size w w6.drew:=⟨D,nB hB⟩
theorem R9 {w''}(h:w'.cell? ⟨A,0,E⟩=w6.cell? ⟨A,0,E⟩/\Below w.heap.size w w')(hb:Below w'.heap.size w' w'')(hl:A<w'.heap.size):w''.cell? ⟨A,0,E⟩=w6.cell? ⟨A,0,E⟩/\Below w.heap.size w w'':=
 ⟨(hb.cell hl).trans h.1,h.2.trans (hb.mono h.2.size)⟩
theorem Wd(h:w'.cell? ⟨A,0,E⟩=w6.cell? ⟨A,0,E⟩/\Below w.heap.size w w')(hAX:A≠X)(hX:w.heap.size<=X)(a b:Value):
 ((w'.setCell ⟨X,0,E⟩ a).setCell ⟨X,1,E⟩ b).cell? ⟨A,0,E⟩=w6.cell? ⟨A,0,E⟩/\Below w.heap.size w ((w'.setCell ⟨X,0,E⟩ a).setCell ⟨X,1,E⟩ b):=
 ⟨(ab2 (aa0 _ ⟨X,1,E⟩ b A hAX)).trans ((ab2 (aa0 _ ⟨X,0,E⟩ a A hAX)).trans h.1),gW (gW h.2 hX _ _) hX _ _⟩
def Bt (k:Int):Int:=((#[111,99,120,103,114,104,101]:Array Nat).getD (k - 1).toNat 0:Nat)
def ph (e:Ev):ay:=gR (eD e.time::lI e)
def jM (e:Ev):Value:=if fL e then .agg #[I U (Bt e.kind),C (ph e)] else .agg #[I U 0,ax]
theorem pQ (e):lI e≠[]/\(lI e).length<=3:=by
 unfold lI
 split
 ·simp
 split
 ·simp
 split
 ·simp
 split
 ·simp
 ·simp
theorem fg (n:Int):(eD n).size<=100:=by
 unfold eD;rw[iR];unfold sK
 split
 ·rename_i h;have:=Lib.itoa_length_le n om om;unfold Lib.itoa at this;rw[az om] at this;omega
 ·simp
theorem Qf (e:Ev)(us:e.user.size<=1000000)(os:e.other.size<=1000000):∀ x∈lI e,x.size<=1000000:=by
 have d1:=fg e.n;have d2:=fg e.st;intro x hx;exact rN
theorem kD {e}(h:fL e=Q):1<=e.kind/\e.kind<=7:=by
 unfold fL at h
 split at h
 ·rename_i h;omega
 split at h
 ·omega
 split at h
 ·omega
 split at h
 ·rename_i h;omega
 split at h
 ·omega
 ·cases h
theorem Mv (e:Ev)(w)(hg:Gb w):
 Calls prog 246 #[e.v] w λe' w'=>∃ g off cap,e'= .returned (Z (G ⟨g,off,E⟩) (lI e).length cap)/\(∀ k (h:k<(lI e).length),w'.cell? ⟨g,off+k,E⟩=G (C (lI e)[k]))/\Below w.heap.size w w':=by
 refine(JE e w hg).mono ?_;rintro e' w' ⟨v,rfl,⟨A,cap,rfl,hc⟩,hb⟩;obtain⟨g,off,rfl,_,_,h2⟩:=hc (pQ e).1;exact⟨g,off,cap,D,h2,hb⟩
theorem sF (e:Ev)(w)(hg:Gb w)(us:e.user.size<=1000000)(os:e.other.size<=1000000)(hr:fL e=Q∨e.kind=0):
 Calls prog 185 #[e.v] w λe' w'=>e'= .returned (.tuple #[jM e,.bool (fL e)])/\Below w.heap.size w w':=by
 have RT:=λw=>pE e w us os hr;have WN:=λw hg=>Mv e w hg;obtain⟨hwn,hwl⟩:=pQ e;have HF:jM e=if fL e then .agg #[I U (Bt e.kind),C (gR (eD e.time::lI e))] else .agg #[I U 0,ax]:=rfl;have HK:=@kD e;have HWS:=Qf e us os;obtain⟨W,hW⟩:=fe (lI e);rw[<-hW] at WN hwn hwl HF HWS;clear hW;generalize jM e=R at HF ⊢;generalize hb:fL e=b at RT HF HK ⊢;obtain⟨k,t,u,o,n,s⟩:=e;simp only at HF HK us os;unfold Ev.v Ev.cells at RT WN ⊢;simp only at RT WN;clear hb us os;obtain⟨m,hm,HM⟩:=nh W.length;rw[<-hm] at hwl;clear hm;obtain⟨V0,hV0⟩:=fe ((w.alloc (.cells #[I J k,I J t,C u,C o,I J n,I J s] 115)).alloc (.cells #[I U 0,ax] 217));obtain⟨BA0,BR0,HB0⟩:=gi (show fP V0 w.heap.size 115 #[I J k,I J t,C u,C o,I J n,I J s] by rw[hV0];exact(fP.new _ _ _).alloc _) (show fP V0 (w.heap.size+1) 217 #[I U 0,ax] by rw[hV0];have:=fP.new (w.alloc (.cells #[I J k,I J t,C u,C o,I J n,I J s] 115)) 217 #[I U 0,ax];simpa using this) (show Below w.heap.size w V0 by rw[hV0];exact(eT _ _).alloc sm _);obtain⟨A,hA,HA⟩:=nh w.heap.size;obtain⟨X,hX,HX⟩:=nh (w.heap.size+1);rw[<-hX] at BR0;have BA0':=BA0.out;rw[<-hA] at BA0';replace BA0:=H BA0';obtain⟨a0,a1,a2,a3,a4,a5⟩:=jF BA0;have r0:V0.cell? ⟨X,0,E⟩=G (I U 0):=BR0.cell 0;have r1:V0.cell? ⟨X,1,E⟩=G ax:=BR0.cell 1;have g0:V0.frozen? ⟨X,0,E⟩=z:=BR0.frozen 0;have g1:V0.frozen? ⟨X,1,E⟩=z:=BR0.frozen 1;obtain⟨HRT,HWN,HGV⟩:=gi (RT V0) WN (hg.below HB0 (aB _));clear hg;replace hwn:=H hwn
 go_enter func185,ntmps185
 go_upto_region 1 with fail
 rw[<-hV0,<-hX,<-hA];clear hV0 hA hX
 go_wp2_with fail
 refine HRT.mono ?_;rintro e V ⟨rfl,hbV⟩;obtain⟨BA,BR,HBV⟩:=gi (show fP V A 115 #[I J k,I J t,C u,C o,I J n,I J s] from(hbV.block A BA0.lt).trans BA0) (show fP V X 217 #[I U 0,ax] from(hbV.block X BR0.lt).trans BR0) (HB0.trans (hbV.mono HB0.size));replace HGV:=H (HGV.below hbV (aB _));clear hbV;obtain⟨a0,a1,a2,a3,a4,a5⟩:=jF BA;have r0:V.cell? ⟨X,0,E⟩=G (I U 0):=BR.cell 0;have r1:V.cell? ⟨X,1,E⟩=G ax:=BR.cell 1;have g0:V.frozen? ⟨X,0,E⟩=z:=BR.frozen 0;have g1:V.frozen? ⟨X,1,E⟩=z:=BR.frozen 1;have hXw:w.heap.size<=X:=by have:=HX.out;omega
 have hAV:A<V.heap.size:=BA.lt;cases b with
 | false=>
  have HR:=H (show R= .agg #[I U 0,ax] from HF)
  go_wp2_with fail
  have hp:fP _ X 217 #[I U 0,ax]:=(BR.mu 0 (I U 0)).mu 1 ax;exact aa1 (Ds.p6 (p:=2) (a:=3) D _ _ _ _ _ _ _ D hp underlying217 D lu) D ⟨by rw[HR.out];rfl,gW (gW HBV hXw _ _) hXw _ _⟩
 | true=>
  have HR:=H (show R= .agg #[I U (Bt k),C (gR (eD t::W))] from HF);have hk1:=(HK D).1;have hk7:=(HK D).2;obtain⟨DT,WV,hsz⟩:=gi (λw' (hb:Below V.heap.size V w')=>mD t w' (HGV.below hb (aB _))) (λw' (hb:Below V.heap.size V w')=>HWN w' (HGV.below hb (aB _))) (show ∀ x∈eD t::W,x.size<=1000000 from λx hx=>by rcases aE.1 hx with rfl | hx;exact aH (fg t) dc;exact HWS x hx);generalize eD t=dt at DT HR hsz
  go_upto_region 3 with fail
  go_region_held3 (λw'=>w'.cell? ⟨A,0,E⟩=G (I J k)/\w'.cell? ⟨A,1,E⟩=G (I J t)/\w'.cell? ⟨A,2,E⟩=G (C u)/\w'.cell? ⟨A,3,E⟩=G (C o)/\w'.cell? ⟨A,4,E⟩=G (I J n)/\w'.cell? ⟨A,5,E⟩=G (I J s)/\Below V.heap.size V w')
   (first | exact Ub ⟨a0,a1,a2,a3,a4,a5,aa4 _ _⟩ | exact Cd ms (eT _ _) | exact Cd ms hb3 | exact Cd ms hb4 | exact Qm ms hg6 (by have h3:V.heap.size<=w3.heap.size:=hb3.size;first | exact h3 | exact aH h3 hb4.size) hAV | exact ms)
   (first | (go_at_call 51;refine qx (DT _ (bc (bc (bc (bc (bc (bc ms))))))) λw3 hb3=>?_) | (go_at_call 246;refine(WV _ (bc (bc (bc (bc (bc (bc ms))))))).mono ?_;rintro e w4 ⟨g2,off2,cap2,rfl,hc4,hb4⟩) | (rw[aA (by rfl)];refine tC _ D _ W.length cap2 g2 off2 dt W D D (Ds.fP.Xy (fP.new _ _ _) hb4) D fT hc4 (λv' w6 hst6 hg6=>?_)) | (rw[aA (by rfl)];refine tC _ D _ W.length cap2 g2 off2 dt W D D (fP.new _ _ _) D fT (λk hk=>((eT _ _).cell (eU (hc4 k hk))).trans (hc4 k hk)) (λv' w6 hst6 hg6=>?_)) | fail)
  all_goals
   have HV6:Below V.heap.size V w6:=bc (bc (bc (bc (bc (bc (by assumption:w6.cell? ⟨A,0,E⟩=G (I J k)/\w6.cell? ⟨A,1,E⟩=G (I J t)/\w6.cell? ⟨A,2,E⟩=G (C u)/\w6.cell? ⟨A,3,E⟩=G (C o)/\w6.cell? ⟨A,4,E⟩=G (I J n)/\w6.cell? ⟨A,5,E⟩=G (I J s)/\Below V.heap.size V w6))))));obtain⟨BA6,BX6,HB6,LN⟩:=kB (show fP w6 A 115 #[I J k,I J t,C u,C o,I J n,I J s] from(HV6.block A BA.lt).trans BA) (show fP w6 X 217 #[I U 0,ax] from(HV6.block X BR.lt).trans BR) (show Below w.heap.size w w6 from HBV.trans (HV6.mono HBV.size)) (λw' (hb:Below w6.heap.size w6 w')=>kV (dt::W) v' w' (hst6.below hb) (by have:=HM.out;simp;omega) hsz);clear hst6;generalize gR (dt::W)=af at LN HR;have a0:w6.cell? ⟨A,0,E⟩=G (I J k):=BA6.cell 0;have hAX:A≠X:=by have:=HA.out;have:=HX.out;omega
   have i0:(0:Int)<=k - 1:=om;have i1:k - 1<7:=om
   go_upto_region 4 with fail
   have wr0:IntKind.i64.wrap 0=0:=dc;have wr1:IntKind.i64.wrap 1=1:=dc;have wr2:IntKind.i64.wrap 2=2:=dc;have wr3:IntKind.i64.wrap 3=3:=dc;have wr4:IntKind.i64.wrap 4=4:=dc;have wr5:IntKind.i64.wrap 5=5:=dc;have wr6:IntKind.i64.wrap 6=6:=dc;obtain rfl | rfl | rfl | rfl | rfl | rfl | rfl:k=1∨k=2∨k=3∨k=4∨k=5∨k=6∨k=7:=om
   all_goals
    go_region_held3 (λw'=>w'.cell? ⟨A,0,E⟩=w6.cell? ⟨A,0,E⟩/\Below w.heap.size w w') (first | exact Sa HB6 | exact R9 ms hb7 (eU a0) | exact Wd ms hAX hXw _ _ | exact ms) (first | (go_at_call 54;refine qx (LN _ (nB (aa4 _ _))) λw7 hb7=>?_;have BX7:fP w7 X 217 #[I U 0,ax]:=(hb7.block X BX6.lt).trans BX6;have r0:w7.cell? ⟨X,0,E⟩=G (I U 0):=BX7.cell 0;have r1:w7.cell? ⟨X,1,E⟩=G ax:=BX7.cell 1;have g0:w7.frozen? ⟨X,0,E⟩=z:=BX7.frozen 0;have g1:w7.frozen? ⟨X,1,E⟩=z:=BX7.frozen 1) | fail)
    all_goals
     go_wp2_with fail
     exact aa1 (Ds.p6 (p:=2) (a:=3) D _ _ _ _ _ _ _ D ((BX7.mu 0 _).mu 1 _) underlying217 D lu) D ⟨by rw[HR.out];rfl,bc (by assumption:_=w6.cell? ⟨A,0,E⟩/\Below w.heap.size w ((w7.setCell ⟨X,0,E⟩ _).setCell ⟨X,1,E⟩ _))⟩
def ow (kd:Int)(L:List ay):Ev:=
 if kd=1∨kd=2∨kd=3 then⟨kd,e8 L 0,iS L 1,bs [],e8 L 2,e8 L 3⟩
 else if kd=4∨kd=5 then⟨kd,e8 L 0,iS L 1,iS L 2,0,0⟩
 else if kd=6 then⟨kd,e8 L 0,bs [],bs [],e8 L 1,0⟩
 else if kd=7 then⟨kd,e8 L 0,iS L 1,bs [],0,0⟩
 else⟨kd,e8 L 0,bs [],bs [],0,0⟩
def lets:List UInt8:=[111,99,120,103,114,104,101]
theorem Mu {x}(h:mh x=Q):32∉x.data.toList:=by
 unfold mh at h;rw[aM,bJ] at h;intro hm;have:=h.1 32 hm
 revert this
 decide
theorem Vy {x}(h:mh x=Q):x.size≠0:=by
 unfold mh at h;rw[aM] at h;exact bo h.2
theorem Ef (F:List ay):(F.map (·.data.toList)).map bs=F:=by
 rw[dK]
 conv=>rhs;rw[<-List.map_id F]
 apply dV;intro x _;exact oP x
theorem lq {F:List ay}(hne:F≠[])(h:F.all mh=Q):yT (gR F)=F:=by
 have hw:∀ x∈F,mh x=Q:=bJ.1 h;have e1:gR F=bs (Lib.join (F.map (·.data.toList)) [32]):=by unfold gR;rw[aA h]
 have e2:uF (gR F)=F:=by
  rw[e1];unfold uF;rw[pS,Il (by simpa using hne) (λx hx=>by
   rw[bI] at hx;obtain⟨y,hy,rfl⟩:=hx;exact Mu (hw y hy)),Ef]
 have h0:(gR F).size≠0:=by
  rw[e1,iR];cases F with
  | nil=>exact absurd D hne
  | cons x r=>
   have:=Vy (hw x sm);rw[eZ] at this;rw[bC,Lib.join_cons,aU];omega
 unfold yT;rw[e2,aA ⟨h0,h⟩]
theorem oK {x}(h:gD x=Q):mh x=Q:=by
 unfold gD at h;rw[aM,aM] at h;have h1:=bo h.2.1;unfold mh;rw[aM,bJ];refine⟨λc hc=>?_,aF om⟩;have h2:qB c=Q:=by
  have:=h.1;unfold jD at this;exact bJ.1 this c hc
 unfold qB at h2;unfold Mj;simp only[bV,aM,aN] at h2 ⊢;omega
theorem jc {n:Int}(h0:0<=n)(h1:n<=1099511627776):mh (eD n)=Q:=by
 have e:sK n=Lib.decDigits n.toNat:=by unfold sK;rw[aA ⟨h0,h1⟩]
 unfold mh eD;rw[pS,iR,e,aM,bJ];refine⟨λc hc=>?_,aF (λh=>Hf n.toNat (cP h))⟩;have:=Ah _ c hc;unfold Mj;simp only[aM,aN];omega
theorem iE {n:Int}(h0:0<=n)(h1:n<=1099511627776):tD (eD n)=G n:=by
 unfold tD eD;rw[pS];exact Rt h0 h1
theorem Tv {k:Int}(h1:1<=k)(h7:k<=7):Lib.indexByte lets (UInt8.ofNat (Bt k).toNat)+1=k:=by
 exact oc
theorem Tu {k:Int}(h1:1<=k)(h7:k<=7):Bt k=((UInt8.ofNat (Bt k).toNat).toNat:Nat):=by
 exact oc
theorem ue {n lo hi:Int}(h:iP n lo hi=Q):lo<=n/\n<=hi:=by
 unfold iP at h;rw[aM] at h;exact⟨bo h.1,bo h.2⟩
theorem uN {s:ay}(h:s.size=0):s=bs []:=by rw[XN h];rfl
theorem gV {e}(h:fL e=Q):(eD e.time::lI e).all mh=Q/\ow e.kind (eD e.time::lI e)=e:=by
 obtain⟨k,t,u,o,n,s⟩:=e;unfold fL at h;simp only at h;unfold lI;simp only
 split at h
 ·rename_i hk;simp only[aM,aN] at h;obtain⟨⟨⟨⟨ht,hs⟩,hn⟩,hu⟩,ho⟩:=h;have ht:=ue ht;have hs:=ue hs;have hn:=ue hn;rw[az om,az om,az om,az om];refine⟨?_,?_⟩
  ·simp only[bD,b9,b7,aM];exact⟨jc ht.1 om,oK hu,jc om om,jc om om⟩
  ·unfold ow;rw[aA om,uN ho];simp only[e8,iS,cH,cI,iE ht.1 (show t<=1099511627776 by omega),iE (show 0<=n by omega) (show n<=1099511627776 by omega),iE (show 0<=s by omega) (show s<=1099511627776 by omega),bU]
 split at h
 ·rename_i hk;simp only[aM,aN] at h;obtain⟨⟨⟨ht,hn⟩,hu⟩,ho,hs⟩:=h;have ht:=ue ht;have hn:=ue hn;rw[az om,az om,az om,aA hk];refine⟨?_,?_⟩
  ·simp only[bD,b9,b7,aM];exact⟨jc ht.1 om,oK hu,jc om om⟩
  ·unfold ow;rw[aA om,uN ho,hs];simp only[e8,iS,cH,cI,List.getD_nil,iE ht.1 (show t<=1099511627776 by omega),iE (show 0<=n by omega) (show n<=1099511627776 by omega),bU,Hy]
 split at h
 ·rename_i hk;simp only[aM,aN] at h;obtain⟨⟨ht,hu⟩,ho,hn,hs⟩:=h;have ht:=ue ht;rw[az om,az om,aA hk];refine⟨?_,?_⟩
  ·simp only[bD,b9,b7,aM];exact⟨jc ht.1 om,oK hu⟩
  ·unfold ow;rw[az om,az om,az om,aA hk,uN ho,hn,hs];exact abG
 split at h
 ·rename_i hk;simp only[aM,aN] at h;obtain⟨⟨ht,hu,ho⟩,hn,hs⟩:=h;have ht:=ue ht;rw[aA hk];refine⟨?_,?_⟩
  ·simp only[bD,b9,b7,aM];exact⟨jc ht.1 om,oK hu,oK ho⟩
  ·unfold ow;rw[az om,aA hk,hn,hs];exact abG
 split at h
 ·rename_i hk;simp only[aM,aN] at h;obtain⟨⟨ht,hn⟩,hu,ho,hs⟩:=h;have ht:=ue ht;have hn:=ue hn;rw[az om,aA hk];refine⟨?_,?_⟩
  ·simp only[bD,b9,b7,aM];exact⟨jc ht.1 om,jc om om⟩
  ·unfold ow;rw[az om,az om,aA hk,uN hu,uN ho,hs];simp only[e8,iS,cH,cI,iE ht.1 (show t<=1099511627776 by omega),iE (show 0<=n by omega) (show n<=1099511627776 by omega),bU]
 ·cases h
structure Rq where
 kind:Int
 e:Ev
 user:ay
 w:ay
 u:ay
 a:Int
 b:Int
 now:Int
 many:Int
 cur:ay
 deriving DecidableEq
def zE:Ev:=⟨0,0,bs [],bs [],0,0⟩
def Rq.base (k:Int):Rq:=⟨k,zE,bs [],bs [],bs [],0,0,0,0,bs []⟩
def lp:ay:=bs [112,117,116]
def kg:ay:=bs [115,121,110,99]
def M7:ay:=bs [99,111,109,112,97,99,116]
def iB:ay:=bs [112,117,114,103,101]
def gI:ay:=bs [114,97,110,103,101]
def iz:ay:=bs [108,97,115,116]
def gE:ay:=bs [45]
def fQ (n:Int):Bool:=decide (0<=n)&&decide (n<=1099511627776)
def jN (s:ay):ay:=if s.size=0 then gE else s
theorem lK {n:Int}(h:fQ n=Q):0<=n/\n<=1099511627776:=by
 unfold fQ at h;rw[aM] at h;exact⟨bo h.1,bo h.2⟩
theorem Jd {e}(h:fL e=Q):yT (ph e)=eD e.time::lI e:=by
 obtain⟨h1,_⟩:=gV h;exact lq sm h1
theorem o8 {F:List ay}(hne:F≠[])(h:F.all mh=Q):(gR F).size≠0:=by
 have e:=lq hne h;intro h0;unfold yT at e;rw[az (λhh=>hh.1 h0)] at e;exact hne e.symm
