/- Lemmas for AfterglowSecret: what functions of the program return; no condition. -/
import Derived.Lib.SlicesCompact
import Derived.Shelf.GgSortFunc.RowK
import Derived.Shelf.RegionOpenPlain
import Derived.Deep.LoopGhost
import Derived.Lib.Walk
import Derived.Lib.SliceRun
import Derived.Test.YtkpdknkidnfgiaaGreatDoorJF
set_option maxHeartbeats 0
set_option maxRecDepth 100000
set_option linter.unusedVariables false
open Go.Value renaming int->I,string->C,slice->Z
open Go.IntKind renaming i64->J,u8->U
open Option renaming none->E,some->G
open Bool renaming true->Q,false->z
open Go.Lib renaming hid->H
open Go.Proofs.Tryz
namespace Go.Proofs.YtkpdknkidnfgiaaGreatDoor
variable {cap g i j k:Nat} {w wr:World}
namespace SgM
open Go Go.RowKit CrcM FrM Go.Lib
open Ds (fP)
def RY (s:Sg):List Value:=[I U (s.k.toNat:Nat),I J s.n]
def sO (L:List Sg):List Value:=L.flatMap RY
theorem tO (s:Sg)(L:List Sg):sO (s::L)= I U (s.k.toNat:Nat):: I J s.n::sO L:=rfl
theorem Iq (L M:List Sg):sO (L++M)=sO L++sO M:=by unfold sO;rw[bB]
theorem kH (L):(sO L).length=L.length*2:=by
 induction L with
 | nil=>rfl
 | cons s r ih=>rw[tO,bj,bj,ih,bj];omega
theorem wh:∀ (L:List Sg) (i:Nat) (h:i<L.length),(sO L)[2*i]?=G (I U (L[i].k.toNat:Nat))/\(sO L)[2*i+1]?=G (I J L[i].n)
 | s::r,0,_=>⟨D,D⟩
 | s::r,i+1,h=>by
   have:=wh r i fc;rw[tO,show 2*(i+1)=2*i+2 by omega];exact this
theorem Ip (s):∀ u∈RY s,u.oneCell'=Q:=by
 intro u hu;unfold RY at hu;simp at hu;rcases hu with rfl | rfl<;>rfl
theorem EO (L:List Sg):Go.Sort.flatK RY 2 L.toArray=(sO L).toArray:=by
 apply dD;intro t;by_cases ht:t<L.length*2
 ·have h1:t<(Go.Sort.flatK RY 2 L.toArray).size:=by simpa using ht
  have h2:t<(sO L).toArray.size:=by simpa[kH] using ht
  have hd:t / 2<L.length:=om;rw[cO h1,<-ab0 _ t h1,Go.Sort.get_flatK _ _ _ t (by simpa using ht)];have e:L.toArray[t / 2]! =L[t / 2]:=by rw[ab0 _ _ (by simpa using hd)];simp
  rw[e];obtain⟨g1,g2⟩:=wh L (t / 2) hd;have hm:t % 2=0∨t % 2=1:=om;rw[bT];rcases hm with h | h
  ·rw[show 2*(t / 2)=t by omega] at g1;rw[h,g1];rfl
  ·rw[show 2*(t / 2)+1=t by omega] at g2;rw[h,g2];rfl
 ·rw[bM eC,bM (by simp[kH];omega)]
def jQ (L:List Sg):List Sg:=L.mergeSort λx y=>!lt y x
theorem pA (L):(jQ L).length=L.length:=List.length_mergeSort _
theorem Ih {L}{x:Sg}:x∈jQ L↔x∈L:=by unfold jQ;exact List.mem_mergeSort
theorem le_trans' (a b c)(h:(!lt b a)=Q)(h':(!lt c b)=Q):(!lt c a)=Q:=by
 rw[ei,zQ] at h h' ⊢;omega
theorem KH (a b):((!lt b a)||(!lt a b))=Q:=by
 rw[bV,ei,ei,zQ,zQ];omega
theorem Nc (L):(jQ L).Pairwise λa b=>lt b a=z:=by
 have:=List.pairwise_mergeSort (le:=λx y=>!lt y x) le_trans' KH L;exact this.imp λh=>by simpa using h
theorem Nd {L}(hi:i<j)(hj:j<(jQ L).length):lt (jQ L)[j] (jQ L)[i]=z:=
 ab9.1 (Nc L) i j om hj hi
def JK (L:List Sg):List Sg:=compactUpTo (jQ L).toArray (jQ L).toArray.size
theorem pB (L)(h:i<(jQ L).length):(jQ L).toArray[i]! =(jQ L)[i]:=by rw[ab0 _ _ fc];simp
theorem VJ (L):Up (JK L):=by
 unfold Up JK compactUpTo;rw[de];refine List.Pairwise.imp_of_mem ?_ (List.Pairwise.filter _ List.pairwise_lt_range);intro i j hi hj hij;rw[aa9,List.mem_range] at hi hj;have hj1:j<(jQ L).length:=by simpa using hj.1
 have hk:=hj.2;unfold keeps at hk;rw[aN] at hk;have hne:(jQ L).toArray[j]!≠(jQ L).toArray[j - 1]!:=hk.resolve_left om;rw[pB L hj1,pB L (by omega:j - 1<(jQ L).length)] at hne;rw[pB L hj1,pB L (by omega:i<(jQ L).length)];have h1:=Nd (L:=L) (i:=j - 1) (j:=j) om hj1;have h2:lt (jQ L)[j - 1] (jQ L)[j]=Q:=(yi hne).resolve_left (by rw[h1];decide);by_cases he:i=j - 1
 ·subst he;exact h2
 ·have h3:=Nd (L:=L) (i:=i) (j:=j - 1) om om;rw[zQ] at h3;rw[lt_iff] at h2 ⊢;omega
theorem Tt {L}{x:Sg}:x∈JK L↔x∈L:=by
 unfold JK compactUpTo;rw[bI];constructor
 ·rintro⟨j,hj,rfl⟩;rw[aa9,List.mem_range] at hj;have hj1:j<(jQ L).length:=by simpa using hj.1
  rw[pB L hj1];exact Ih.1 (aV _)
 ·intro hx;obtain⟨j,hj,rfl⟩:=ab5.1 (Ih.2 hx)
  induction j with
  | zero=>exact⟨0,aa9.2 ⟨List.mem_range.2 gZ,by simp[keeps]⟩,pB L hj⟩
  | succ j ih=>
   by_cases hk:keeps (jQ L).toArray (j+1)=Q
   ·exact⟨j+1,aa9.2 ⟨List.mem_range.2 gZ,hk⟩,pB L hj⟩
   ·have he:(jQ L)[j+1]=(jQ L)[j]:=by
     unfold keeps at hk;rw[aN] at hk;have h2:=bN.1 hk;have h3:=Classical.not_not.1 h2.2;rw[pB L hj,show j+1 - 1=j from rfl,pB L (by omega:j<(jQ L).length)] at h3;exact h3
    rw[he];exact ih om (by rw[<-he];exact hx)
theorem MJ (L):JK L=uq L:=MH (VJ L) (Yb L) λ_=>Tt.trans OS.symm
end SgM
namespace SgM
open Go Go.RowKit CrcM FrM Go.Lib Go.Sort
open Ds (fP)
def yR (w:World)(g:Nat)(L:List Sg)(R:List Value):Prop:=fP w g 133 (sO L++R).toArray
theorem yR.cell{L}{R}(h:yR w g L R)(i:Nat)(hi:i<L.length):
 w.cell? ⟨g,i*2,E⟩=G (I U (L[i].k.toNat:Nat))/\w.cell? ⟨g,i*2+1,E⟩=G (I J L[i].n):=by
 obtain⟨g1,g2⟩:=wh L i hi;rw[da] at g1 g2;have hl:=kH L;refine⟨(fP.cell h _).trans ?_,(fP.cell h _).trans ?_⟩
 ·rw[bT,dH om];exact g1
 ·rw[bT,dH om];exact g2
theorem zR:∀ (L:List Sg) (R:List Value) (i:Nat) (s:Sg),i<L.length->((sO L++R).set (i*2) (I U (s.k.toNat:Nat))).set (i*2+1) (I J s.n)=sO (L.set i s)++R
 | t::r,R,0,s,_=>rfl
 | t::r,R,i+1,s,h=>by
   have:=zR r R i s fc;rw[tO,cR,tO,show(i+1)*2=i*2+1+1 by omega,bq,bq,cR,cR,cR,cR,this];rfl
theorem yR.set{L}{R}(h:yR w g L R)(i:Nat)(hi:i<L.length)(s:Sg):
 yR ((w.setCell ⟨g,i*2,E⟩ (I U (s.k.toNat:Nat))).setCell ⟨g,i*2+1,E⟩ (I J s.n)) g (L.set i s) R:=by
 have:=(fP.mu h (i*2) (I U (s.k.toNat:Nat))).mu (i*2+1) (I J s.n);unfold yR;rw[<-zR L R i s hi];simpa using this
theorem ux (g:Nat)(t):∀ (vs:List Value) (o:Nat) (w:World) (cs:Array Value),fP w g t cs->fP (w.setCells g o vs) g t (setMany cs o vs)
 | [],_,_,_,h=>h
 | v::r,o,_,_,h=>ux g t r (o+1) _ _ (fP.mu h o v)
theorem vD:∀ (zl yN A R:List Value),zl.length=yN.length->setMany (A++yN++R).toArray A.length zl=(A++zl++R).toArray
 | [],[],_,_,_=>rfl
 | v::au,u::o,A,R,h=>by
   have:=vD au o (A++[v]) R fc;have e:((A++u::o++R).toArray.setIfInBounds A.length v)=(A++[v]++o++R).toArray:=sm;rw[setMany,e,show A.length+1=(A++[v]).length by simp,this];simp
theorem sE(h:w.grownBy wr (G g))(i:Nat)(u):w.grownBy (wr.setCell ⟨g,i,E⟩ u) (G g):=
 ⟨h.os,h.tape,h.output,jv,λk hk hne=>(aa0 wr _ u k (λe=>hne (by rw[e]))).trans (h.block k hk hne)⟩
theorem ys:∀ (vs:List Value) (o:Nat) (wr:World),w.grownBy wr (G g)->w.grownBy (wr.setCells g o vs) (G g)
 | [],_,_,h=>h
 | v::r,o,_,h=>ys r (o+1) _ (sE h o v)
theorem yR.clear{L}{R}(h:yR w g L R)(k:Nat)(hk:k<=L.length)(zl:List Value)(hz:zl.length=(L.length - k)*2):
 yR (w.setCells g (k*2) zl) g (L.take k) (zl++R):=by
 have h1:=ux g 133 zl (k*2) w _ h;have h2:=vD zl (sO (L.drop k)) (sO (L.take k)) R (by rw[hz,kH,bm]);rw[<-Iq,bA,kH,aK,show min k L.length=k by omega] at h2;rw[h2] at h1;unfold yR;rw[<-aS];exact h1
theorem yR.frozen{L}{R}(h:yR w g L R)(i:Nat):w.frozen? ⟨g,i,E⟩=z:=fP.frozen h i
def Rf (n:Nat):List Value:=(Builtin.zeroCells #[I U 0,av] n).toList
theorem Az (n:Nat):(Rf n).length=n*2:=by simp[Rf,Builtin.zeroCells]
theorem Rm (n:Nat):∀ v∈Rf n,v.oneCell'=Q:=by
 intro v hv;simp[Rf,Builtin.zeroCells] at hv;obtain⟨i,-,rfl⟩:=hv;have:i % 2=0∨i % 2=1:=om;rcases this with h | h<;>rw[h]<;>rfl
theorem QG{L}{R}(h:yR w g L R)(k:Nat)(hk:k<L.length)(o c:Nat)(ho:o=k*2)(ty:TypeId):
 (Builtin.clear_ #[177] ty #[Z (G ⟨g,o,E⟩) (L.length - k) c]).run prog w= .ok (.tuple #[]) (w.setCells g o (Rf (L.length - k))):=by
 subst ho;have hsz:(sO L++R).toArray.size=L.length*2+R.length:=by simp[kH]
 have hst:=run_storeCells_cells (P:=prog) g (k*2) (Rf (L.length - k)) 0 w (λj hj=>by
  rw[Az] at hj;rw[fP.cell h,cO (by rw[hsz];omega)];rfl) (λj _=>fP.frozen h _) (Rm _)
 simp only[dA] at hst;obtain⟨m,hm⟩:∃ m,L.length - k=m+1:=⟨L.length - k - 1,om⟩;rw[hm] at hst ⊢;have hz:∀ w,(zeroValue 133).run prog w= .ok (.agg #[I U 0,av]) w:=zeroValue133;have hzl:(Builtin.zeroCells (Value.agg #[I U 0,av]).cells (m+1)).toList=Rf (m+1):=rfl;simp[Builtin.clear_,run_underlying underlying177,hz,hzl,hst]
theorem Pe {d:Array Sg}(h:∀ j,j<k->keeps d j=Q)(hk:keeps d k=Q):∀ j,j<k+1->keeps d j=Q:=by
 intro j hj;by_cases e:j=k
 ·rw[e];exact hk
 ·exact h j om
theorem acf{r}(h:w.grownBy wr r):w.grownBy wr.drew r:=⟨h.os,h.tape,h.output,h.size,h.block⟩
theorem Fk{fo:Nat}{d:Array Sg}{R}(h0:yR w fo d.toList R)(hsz:d.size<=1000)(hcap:d.size<=cap)(hcap2:cap<=9223372036854775807):
 Calls prog 154 #[Z (G ⟨fo,0,E⟩) d.size cap] w λe w'=>
  e= .returned (Z (G ⟨fo,0,E⟩) (compactUpTo d d.size).length cap)/\∃ R',R'.length+(compactUpTo d d.size).length*2=R.length+d.size*2/\yR w' fo (compactUpTo d d.size) R'/\w.grownBy w' (G fo):=by
 have same:∀ wr,w.grownBy wr (G fo)->yR wr fo d.toList R->(∀ j,j<d.size->keeps d j=Q)->(compactUpTo d d.size).length=d.size/\∃ R',R'.length+(compactUpTo d d.size).length*2=R.length+d.size*2/\yR wr fo (compactUpTo d d.size) R'/\w.grownBy wr (G fo):=by
  intro wr hg hr hall;have e:compactUpTo d d.size=d.toList:=by rw[compactUpTo_all d _ hall,range_map_get]
  rw[e];exact⟨sm,R,sm,hr,hg⟩
 obtain⟨off,hoff⟩:∃ off:Nat,off=0:=⟨_,D⟩;have HO:Hid (off=0):=H hoff;rw[show(Value.slice (G ⟨fo,0,E⟩) d.size cap)= Z (G ⟨fo,off,E⟩) d.size cap by rw[hoff]];have HS:=H same;clear same hoff;have hgw:w.grownBy w (G fo):=⟨D,D,D,aB _,λ_ _ _=>rfl⟩;obtain⟨HG0,H0⟩:=eN hgw h0;clear hgw;by_cases h2:d.size<2
 ·go_enter func154,ntmps154
  go_wp2
  go_ret;obtain⟨e1,e2⟩:=HS w HG0 H0 (λj hj=>keeps_lt_one d j om);exact⟨by rw[e1,HO.out];rfl,e2⟩
 ·go_enter func154,ntmps154
  go_wp2
  go_loopg [3] d.size (λg s3 wr=>∃ k:Nat,1<=k/\k<=d.size/\d.size - k<=g/\s3= I J k/\w.grownBy wr (G fo)/\yR wr fo d.toList R/\∀ j,j<k->keeps d j=Q)
  case atStart=>exact⟨1,aB _,om,om,D,HG0,H0,keeps_lt_one d⟩
  case round=>
   obtain⟨k,hk1,hk,hg,rfl,hgr,hrw,hall⟩:=hrel;by_cases hlt:k<d.size
   ·obtain⟨c1,c1'⟩:=hrw.cell k (by simpa using hlt);obtain⟨c0,c0'⟩:=hrw.cell (k - 1) eC;have ea:d.toList[k]'(by simpa using hlt)=d[k]!:=by rw[ab0 d k hlt];simp
    have eb:d.toList[k - 1]' eC=d[k - 1]!:=by rw[ab0 d (k - 1) om];simp
    rw[ea] at c1 c1';rw[eb] at c0 c0';have eo:∀ i,(⟨fo,i,E⟩:Addr)=⟨fo,off+i,E⟩:=λi=>by rw[HO.out,aZ]
    rw[eo] at c0 c0' c1 c1';rw[<-cN] at c0' c1';obtain⟨A,HH,HG⟩:=gi hall hrw hgr;clear hall hrw hgr ea eb eo;generalize hx:d[k]! =x at c1 c1';generalize hy:d[k - 1]! =y at c0 c0';have B:=H (show d[k]! =x/\d[k - 1]! =y from⟨hx,hy⟩);clear hx hy;by_cases hdup:x=y
    ·subst hdup;generalize (x.k.toNat:Int)=xk at c0 c1;generalize x.n=xn at c0' c1'
     go_wp2_with fail
     go_region
     go_wp2
     go_loopg [3,5] d.size (λg s3 s5 wr=>∃ (kk k2:Nat) (dk:Array Sg),s3= I J kk/\s5= I J k2/\1<=k2/\k+k2<=d.size/\d.size - (k+k2)<=g/\w.grownBy wr (G fo)/\yR wr fo dk.toList R/\CompInv d (k+k2) kk dk)
     case atStart=>exact⟨k,1,d,D,D,aB _,om,om,acf HG,HH,CompInv.start A (keeps_neg om (by rw[B.out.1,B.out.2]))⟩
     case round=>
      obtain⟨kk,k2,dk,rfl,rfl,h1,hle,hg2,hgr2,hrw2,hI⟩:=hrel;have hkk:=hI.lt;have hds:=hI.size;obtain⟨I2,H2,G2⟩:=gi hI hrw2 hgr2;clear hrw2 hgr2 hI;by_cases hlt2:k+k2<d.size
      ·obtain⟨cm,cm'⟩:=H2.cell (k+k2) eC;obtain⟨cp,cp'⟩:=H2.cell (k+k2 - 1) eC;obtain⟨ck,ck'⟩:=H2.cell kk eC;have em:dk.toList[k+k2]' eC=d[k+k2]!:=by rw[<-I2.out.high (k+k2) om,ab0 dk (k+k2) om];simp
       have ep:dk.toList[k+k2 - 1]' eC=d[k+k2 - 1]!:=by rw[<-I2.out.high (k+k2 - 1) om,ab0 dk (k+k2 - 1) om];simp
       rw[em] at cm cm';rw[ep] at cp cp';have fk:∀ i,wr.frozen? ⟨fo,i,E⟩=z:=H2.frozen;have eo:∀ i,(⟨fo,i,E⟩:Addr)=⟨fo,off+i,E⟩:=λi=>by rw[HO.out,aZ]
       have fk0:wr.frozen? ⟨fo,off+kk*2,E⟩=z:=fk _;have fk1:wr.frozen? ⟨fo,off+kk*2+1,E⟩=z:=fk _;rw[eo,show off+(k+k2)*2=off+k*2+k2*2 by omega] at cm;rw[eo,show off+((k+k2)*2+1)=off+k*2+k2*2+1 by omega] at cm';rw[eo,show off+(k+k2 - 1)*2=off+k*2+(k2 - 1)*2 by omega] at cp;rw[eo,show off+((k+k2 - 1)*2+1)=off+k*2+(k2 - 1)*2+1 by omega] at cp';rw[eo] at ck ck';rw[<-cN] at ck';clear em ep eo fk;generalize hu:d[k+k2]! =u at cm cm';generalize hv:d[k+k2 - 1]! =v at cp cp';generalize (dk.toList[kk]' eC).k.toNat=ok1 at ck;generalize (dk.toList[kk]' eC).n=ok2 at ck';have aj:=H (show d[k+k2]! =u/\d[k+k2 - 1]! =v from⟨hu,hv⟩);clear hu hv;by_cases huv:u=v
       ·subst huv;generalize (u.k.toNat:Int)=uk at cm cp;generalize u.n=un at cm' cp'
        go_wp2_with fail
        go_region
        go_wp2
        go_roundg (d.size - (k+(k2+1)))
        case measure=>omega
        case rel=>exact⟨kk,k2+1,dk,D,eB,om,om,aB _,acf G2,H2,I2.skip (keeps_neg om (by rw[aj.out.1,aj.out.2]))⟩
       ·have hne:¬((u.k.toNat:Int)=v.k.toNat)∨¬(u.n=v.n):=by
         by_cases e:(u.k.toNat:Int)=v.k.toNat
         ·right;exact λe2=>huv (uQ (cE.1 om) e2)
         ·left;exact e
        have H3:yR ((wr.setCell ⟨fo,off+kk*2,E⟩ (I U (u.k.toNat:Nat))).setCell ⟨fo,off+kk*2+1,E⟩ (I J u.n)) fo (dk.setIfInBounds kk u).toList R:=by
         have:=H2.set kk eC u;rw[HO.out,aZ];simpa using this
        have hkp:keeps d (k+k2)=Q:=keeps_pos (by rw[aj.out.1,aj.out.2];exact huv);have H5:=I2.keep hlt2 hkp;rw[aj.out.1] at H5;replace H5:=H H5;generalize huk:(u.k.toNat:Int)=uk at cm hne H3;generalize (v.k.toNat:Int)=vk at cp hne;generalize hun:u.n=un at cm' hne H3;generalize v.n=vn at cp' hne;have HN:=H hne;replace H3:=H H3;clear huv hne hkp huk hun;by_cases e1:uk=vk;have e2:¬un=vn:=HN.resolve_left (λh=>h e1);subst e1;rotate_left;rotate_left
        all_goals
         go_wp2_with fail
         go_region
         go_wp2
         go_roundg (d.size - (k+(k2+1)))
         case measure=>omega
         case rel=>exact⟨kk+1,k2+1,dk.setIfInBounds kk u,eB,eB,om,om,aB _,acf (sE (sE G2 _ _) _ _),H3,H5⟩
      ·have hend:k+k2=d.size:=om;have hcl:∀ ty,(Builtin.clear_ #[177] ty #[Z (G ⟨fo,off+kk*2,E⟩) (d.size - kk) (cap - kk)]).run prog wr= .ok (.tuple #[]) (wr.setCells fo (off+kk*2) (Rf (d.size - kk))):=by
        intro ty;have:=QG H2 kk eC (off+kk*2) (cap - kk) (by rw[HO.out,aZ]) ty;rw[show dk.toList.length=d.size by simp[hds]] at this;exact this
       have H3:=H2.clear kk eC (Rf (d.size - kk)) (by rw[Az];simp[hds]);have HH3:=H H3
       go_wp2
       go_ret;have hI:=I2.out;rw[hend] at hI;have hcu:dk.toList.take kk=compactUpTo d d.size:=by
        apply dh;intro j;rw[bE];by_cases hj:j<kk
        ·rw[aA hj,hI.low j hj,ab0 dk j om];simp[show j<dk.size by omega]
        ·rw[az hj,b6 (by rw[hI.len];omega)]
       have H6:=HH3.out;rw[hcu] at H6;refine⟨by rw[hI.len,HO.out];rfl,Rf (d.size - kk)++R,?_,?_,?_⟩
       ·rw[aU,Az,hI.len];omega
       ·rw[HO.out,aZ];exact H6
       ·exact ys _ _ _ G2
    ·have hne:¬((x.k.toNat:Int)=y.k.toNat)∨¬(x.n=y.n):=by
      by_cases e:(x.k.toNat:Int)=y.k.toNat
      ·right;exact λe2=>hdup (uQ (cE.1 om) e2)
      ·left;exact e
     generalize (x.k.toNat:Int)=xk at c1 hne;generalize (y.k.toNat:Int)=yk at c0 hne;generalize x.n=xn at c1' hne;generalize y.n=yn at c0' hne;obtain⟨hdup',HN⟩:=eN hdup hne;clear hdup hne;by_cases e1:xk=yk;have e2:¬xn=yn:=HN.resolve_left (λh=>h e1);rotate_left;rotate_left
     all_goals
      go_wp2_with fail
      go_region
      go_wp2
      go_roundg (d.size - (k+1))
      case measure=>omega
      case rel=>exact⟨k+1,om,om,aB _,eB,acf HG,HH,Pe A (keeps_pos (by rw[B.out.1,B.out.2];exact hdup'))⟩
   ·have hkd:k=d.size:=om;subst hkd;have HH:=H (HS wr hgr hrw hall);clear hgr hrw hall
    go_wp2
    go_ret;obtain⟨e1,e2⟩:=HH.out;exact⟨by rw[e1,HO.out];rfl,e2⟩
