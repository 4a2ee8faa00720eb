/- Lemmas for AfterglowSecret: what functions of the program return; no condition. -/
import Derived.Lib.SmallJoins
import Derived.Lib.AppendIntMem
import Derived.Deep.CutRange
import Derived.Test.YtkpdknkidnfgiaaGreatDoorJF
import Derived.Test.YtkpdknkidnfgiaaGreatDoorJG
set_option maxHeartbeats 0
set_option maxRecDepth 100000
set_option linter.unusedVariables false
open Go.Value renaming int->I,string->C,slice->Z
open Go.IntKind renaming i64->J,u8->U
open Option renaming none->E,some->G
open Bool renaming true->Q,false->z
open Go.Lib renaming hid->H
open Go.Proofs.Tryz
namespace Go.Proofs.YtkpdknkidnfgiaaGreatDoor
theorem abi{p:Prop}(h:p:=by
 go_wp2_with fail
 go_ret;exact⟨by rw[HE.out];rfl,aa4 _ _⟩):p:=h
theorem qY{p:Prop}(h:p:=by
 refine⟨_,_,D,λ_=>⟨_,0,D,BU.lt,aB _,λk hk=>?_⟩⟩;have:=BU.cell k;rw[aZ,this];clear this;rw[bT,el,aW hk];rfl):p:=h
theorem rC{p:Prop}(h:p:=by
 go_enter func80,ntmps80
 go_wp2_with fail
 refine AT.mono ?_;rintro e w2 hpost;obtain⟨N,rfl,-,-,hb⟩:=hpost;have HB:=H hb
 go_wp2_with fail
 go_ret2
 exact⟨D,HB⟩):p:=h
theorem ib{p:Prop}(h:p:=by
 go_wp2_with fail
 go_ret;exact⟨by rw[HE.out];rfl,D⟩):p:=h
theorem iL{p:Prop}(h:p:=by
 try dsimp only at hSx
 go_simp
 try with_reducible rfl):p:=h
variable {ec xc:Array Value} {a u:ByteArray} {xs:List Value} {A B X k n size:Nat} {T:TypeId} {V W w w' w1 wr:World}
namespace Tp
open Go Go.RowKit CrcM FrM
open Ds (eU fP)
structure Gb (w:World):Prop where
 size:4<=w.heap.size
 c1:∃ m,w.cell? ⟨1,0,E⟩=G (I J m)
 c2:∃ t p,w.cell? ⟨2,0,E⟩=G (.iface t p)
 c3:∃ t p,w.cell? ⟨3,0,E⟩=G (.iface t p)
 Hx:Lib.TabIs prog w "internal/strconv.uint64pow10" .u64 Lib.pow10Tab
theorem Gb.below(h:Gb w)(hb:Below B w w')(hB:w.heap.size<=B):Gb w':=by
 have hs:=h.size;refine⟨aH hs (by have:=hb.size;omega),?_,?_,?_,?_⟩
 ·obtain⟨m,h1⟩:=h.c1;exact⟨m,(hb.cell (by show 1<B;omega)).trans h1⟩
 ·obtain⟨t,p,h1⟩:=h.c2;exact⟨t,p,(hb.cell (by show 2<B;omega)).trans h1⟩
 ·obtain⟨t,p,h1⟩:=h.c3;exact⟨t,p,(hb.cell (by show 3<B;omega)).trans h1⟩
 ·exact Joins.tab_stays (g:=0) kr h.Hx hb hB
def bs (l:List UInt8):ay:=⟨l.toArray⟩
theorem oP (s:ay):bs s.data.toList=s:=by unfold bs;simp
theorem pS (l):(bs l).data.toList=l:=by unfold bs;simp
theorem iR (l):(bs l).size=l.length:=by unfold bs;simp[ByteArray.size]
def gR (F:List ay):ay:=if F.all mh then bs (Lib.join (F.map (·.data.toList)) [32]) else bs []
def uF (s:ay):List ay:=(sp s.data.toList).map bs
def yT (s:ay):List ay:=if s.size≠0/\(uF s).all mh=Q then uF s else []
def eD (n:Int):ay:=bs (sK n)
theorem rP (M:Nat):∀ (F:List (List UInt8)),(∀ x∈F,x.length<=M)->(Lib.join F [32]).length<=F.length*(M+1)
 | [],_=>by simp[Lib.join]
 | [x],h=>by rw[Lib.join_one];have:=h x sm;simp;omega
 | x::y::r,h=>by
   have ih:=rP M (y::r) (λau hz=>h au (cV _ hz));have hx:=h x sm;rw[Lib.join_cons,show Lib.joinTail [32] (y::r)=32::Lib.join (y::r) [32] by rw[Lib.join_cons];simp[Lib.joinTail]];rw[show(x::y::r).length=(y::r).length+1 from rfl,bH];generalize (y::r).length*(M+1)=q at ih ⊢;rw[aU,bj];omega
theorem kV (F)(v)(w)(h:eO w v F)(hl:F.length<=1000000)(hF:∀ s∈F,s.size<=1000000):
 Calls prog 54 #[v] w λe w'=>e= .returned (C (gR F))/\Below w.heap.size w w':=by
 have CT:=O1.2 F v w h om (λs hs=>by have:=hF s hs;omega);obtain⟨A,cap,rfl,hc⟩:=h;have JN:Calls prog 73 #[Z A F.length cap,C ⟨#[32]⟩] w λe w'=>e= .returned (C (bs (Lib.join (F.map (·.data.toList)) [32])))/\Below w.heap.size w w':=by
  by_cases hne:F=[]
  ·subst hne;refine QS (Tryz.strings_Join_none A cap ⟨#[32]⟩ w) ?_;exact⟨D,aa4 _ _⟩
  ·obtain⟨g,off,rfl,hg,hn,hcl⟩:=hc hne;have hj:=rP 1000000 (F.map (·.data.toList)) (λx hx=>by
    rw[bI] at hx;obtain⟨s,hs,rfl⟩:=hx;have:=hF s hs;rw[eZ] at this;exact this)
   rw[bg] at hj;refine(Tryz.strings_Join g off cap F ⟨#[32]⟩ w (λj x hx=>?_) hg om hn ?_).mono ?_
   ·obtain⟨hj,rfl⟩:=ab4.1 hx;exact hcl j hj
   ·refine aH hj (aH (bt _ hl) dc)
   ·rintro e w2 ⟨rfl,hb⟩;exact⟨D,hb⟩
 have HE:gR F=if F.all mh then bs (Lib.join (F.map (·.data.toList)) [32]) else bs []:=rfl;generalize bs (Lib.join (F.map (·.data.toList)) [32])=af at JN HE;generalize gR F=R at HE ⊢;generalize F.all mh=b at CT HE;replace CT:=H CT;replace JN:=H JN;cases b with
 | true=>
  obtain rfl:R=af:=HE
  go_enter func54,ntmps54
  go_wp2_with fail
  refine CT.mono ?_;rintro e w2 ⟨rfl,rfl⟩
  go_wp2_with fail
  refine JN.mono ?_;rintro e w2 ⟨rfl,hb⟩
  go_wp2_with fail
  go_ret;exact⟨D,hb⟩
 | false=>
  obtain rfl:R=bs []:=HE
  go_enter func54,ntmps54
  go_wp2_with fail
  refine CT.mono ?_;rintro e w2 ⟨rfl,rfl⟩
  go_wp2_with fail
  go_ret;exact⟨D,aa4 _ _⟩
theorem mD (n:Int)(w)(h:Gb w):Calls prog 51 #[I J n] w λe w'=>e= .returned (C (eD n))/\Below w.heap.size w w':=by
 by_cases h1:n<0
 ·have HE:=H (show eD n=bs [] by unfold eD sK;rw[az om]);have d1:decide (n<0)=Q:=aF h1
  go_enter func51,ntmps51
  exact abi
 ·have d1:decide (n<0)=z:=aC h1;by_cases h2:1099511627776<n
  ·have HE:=H (show eD n=bs [] by unfold eD sK;rw[az om]);have d2:decide (1099511627776<n)=Q:=aF h2
   go_enter func51,ntmps51
   exact abi
  ·have d2:decide (1099511627776<n)=z:=aC h2;obtain⟨HE,IT⟩:=eN (show eD n=⟨(Lib.itoa n).toArray⟩ by unfold eD sK bs Lib.itoa;rw[aA om,az h1]) (Tryz.strconv_Itoa n om om w h.Hx)
   go_enter func51,ntmps51
   go_wp2_with fail
   refine IT.mono ?_;rintro e w2 ⟨rfl,k,os,hw⟩;have HB:=H (show Below w.heap.size w w2 by rw[hw];exact Lib.below_grow _ _ (aB _) _ _);clear hw
   go_wp2_with fail
   go_ret;exact⟨by rw[HE.out];rfl,HB⟩
theorem Ic {b:ay}(h:a≠b):(a.toList==b.toList)=z:=by
 rw[aX];intro e;rw[ByteArray.toList_eq,ByteArray.toList_eq] at e;exact h (by rw[<-oP a,<-oP b,e])
theorem Rn (s):(uF s).length<=s.size+1:=by
 unfold uF;rw[bg,eZ];generalize s.data.toList=l
 induction l with
 | nil=>simp[sp]
 | cons c r ih=>
  unfold sp
  split
  ·simp;omega
  ·cases hs:sp r with
   | nil=>exact absurd hs (Ik r)
   | cons x t=>rw[hs] at ih;simp at ih ⊢;omega
theorem xx:∀ (l:List UInt8),∀ x∈sp l,x.length<=l.length
 | [],x,h=>by simp[sp] at h;subst h;simp
 | c::r,x,h=>by
   have ih:=xx r;unfold sp at h
   split at h
   ·rcases aE.1 h with rfl | h
    ·simp
    ·have:=ih x h;simp;omega
   ·cases hs:sp r with
    | nil=>exact absurd hs (Ik r)
    | cons y t=>
     rw[hs] at h ih;rcases aE.1 h with rfl | h
     ·have:=ih y sm;simp;omega
     ·have:=ih x (cV _ h);simp;omega
theorem Mr {s x:ay}(h:x∈uF s):x.size<=s.size:=by
 unfold uF at h;rw[bI] at h;obtain⟨y,hy,rfl⟩:=h;rw[iR,eZ];exact xx _ _ hy
theorem Ms (s):bs (Lib.join ((uF s).map (·.data.toList)) [32])=s:=by
 have:(uF s).map (·.data.toList)=sp s.data.toList:=by
  unfold uF;rw[dK]
  conv=>rhs;rw[<-List.map_id (sp s.data.toList)]
  apply dV;intro l _;exact pS l
 rw[this,I1,oP]
theorem Tx (s):gR (uF s)=if(uF s).all mh then s else bs []:=by
 unfold gR;rw[Ms]
theorem zr (s):Lib.splitB ⟨#[32]⟩ 0 (Lib.countB s ⟨#[32]⟩) s=uF s:=by
 have h:=Lib.splitB_data ⟨#[32]⟩ 0 (Lib.countB s ⟨#[32]⟩) s;have h2:Lib.splitK [32] 0 (Lib.countB s ⟨#[32]⟩) s.data.toList=sp s.data.toList:=Dc s.data.toList;unfold uF;rw[<-h2];have h3:=aP (List.map bs) h;rw[dK] at h3;rw[<-show Lib.splitK (⟨#[32]⟩:ay).data.toList 0 (Lib.countB s ⟨#[32]⟩) s.data.toList=Lib.splitK [32] 0 (Lib.countB s ⟨#[32]⟩) s.data.toList from rfl,<-h3]
 conv=>lhs;rw[<-List.map_id (Lib.splitB _ _ _ _)]
 apply dV;intro x _;exact(oP x).symm
theorem LQ (s):(uF s).length=Lib.countB s ⟨#[32]⟩+1:=by
 rw[<-zr];exact Lib.splitB_all ⟨#[32]⟩ dc 0 _ s rfl
theorem oW (s:ay)(w)(hg:Gb w)(hs:s.size<=900000):
 Calls prog 77 #[C s] w λe w'=>∃ v,e= .returned v/\eO w' v (yT s)/\Below w.heap.size w w':=by
 obtain⟨m,hm⟩:=hg.c1;have SP0:=Tryz.strings_Split s ⟨#[32]⟩ m w om hm dc;rw[zr,<-LQ] at SP0;obtain⟨W,hW⟩:=fe (w.alloc (.cells ((uF s).map Value.string).toArray 9));rw[<-hW] at SP0;have HB:=H (show Below w.heap.size w W by rw[hW];exact eT _ _);have HS:eO W (Z (G ⟨w.heap.size,0,E⟩) (uF s).length (uF s).length) (uF s):=by
  have BU:=Ds.fP.new w 9 ((uF s).map Value.string).toArray;rw[<-hW] at BU;exact qY
 have LN:=kV (uF s) _ W HS (by have:=Rn s;omega) (λx hx=>by have:=Mr hx;omega);rw[Tx] at LN;have HW:yT s=if s.size≠0/\(uF s).all mh=Q then uF s else []:=rfl;have HSH:=H HS;clear hW hm;have SP:=H SP0;obtain⟨n,hn⟩:=fe ((uF s).length);rw[<-hn] at SP LN HSH;clear hn;by_cases h0:s.size=0
 ·have n1:(s.toList==[])=Q:=by
   rw[ByteArray.toList_eq,dq];have:=eZ s;rw[h0] at this;exact cP this.symm
  have n2:s.toList=[]:=by simpa using n1
  have HN:=H (show yT s=[] by rw[HW,az (by intro h;exact h.1 h0)]);clear HW
  go_enter func77,ntmps77
  go_wp2_with fail
  refine SP.mono ?_;rintro e w2 ⟨rfl,rfl⟩
  go_wp2_with fail
  go_ret;exact⟨_,D,by rw[HN.out];exact⟨E,0,D,λh=>absurd D h⟩,HB⟩
 ·have hne:s.toList≠[]:=by
   rw[ByteArray.toList_eq];intro e;have:=eZ s;rw[e] at this;exact h0 this
  have n1:(s.toList==[])=z:=by rw[aX];exact hne
  have n2:decide (s.toList=[])=z:=aC hne;have n3:s.toList.isEmpty=z:=by cases h:s.toList with | nil=>exact absurd h hne | cons=>rfl
  cases hb:(uF s).all mh with
  | true=>
   rw[hb] at LN;have HN:=H (show yT s=uF s by rw[HW,aA ⟨h0,hb⟩]);replace LN:=H LN;clear HW hb
   go_enter func77,ntmps77
   go_wp2_with fail
   refine SP.mono ?_;rintro e w2 ⟨rfl,rfl⟩
   go_wp2_with (go_at_call 54;refine LN.mono ?_;rintro e w2 ⟨rfl,hb2⟩;have HB2:=H hb2;clear hb2)
   go_ret;exact⟨_,D,by rw[HN.out];exact HSH.below HB2,HB.trans (HB2.mono HB.size)⟩
  | false=>
   rw[hb] at LN;have HN:=H (show yT s=[] by rw[HW,az (by intro h;rw[hb] at h;cases h.2)]);have ne:=Ic (a:=bs []) (b:=s) (by intro e;exact h0 (by rw[<-e];rfl));simp only[dw,if_false] at LN;generalize bs []=aq at LN ne;replace LN:=H LN;clear HW hb
   go_enter func77,ntmps77
   go_wp2_with fail
   refine SP.mono ?_;rintro e w2 ⟨rfl,rfl⟩
   go_wp2_with (go_at_call 54;refine LN.mono ?_;rintro e w2 ⟨rfl,hb2⟩;have HB2:=H hb2;clear hb2)
   go_ret;exact⟨_,D,by rw[HN.out];exact⟨E,0,D,λh=>absurd D h⟩,HB.trans (HB2.mono HB.size)⟩
def tD (s:ay):Option Int:=JL s.data.toList
theorem VK {s:ay}{v:Int}(h:Lib.atoiAll s.data.toList= .ok v):tD s=if eD v=s/\s.size≠0 then G v else E:=by
 have e1:sK v=s.data.toList↔eD v=s:=by
  unfold eD;constructor
  ·intro e;rw[e,oP]
  ·intro e;rw[<-e,pS]
 have e2:s.data.toList≠[]↔s.size≠0:=by
  rw[eZ];cases s.data.toList with | nil=>simp | cons=>simp
 unfold tD JL;rw[h];simp only;by_cases hh:sK v=s.data.toList/\s.data.toList≠[]
 ·rw[aA hh,aA ⟨e1.1 hh.1,e2.1 hh.2⟩]
 ·rw[az hh,az (λh2=>hh ⟨e1.2 h2.1,e2.2 h2.2⟩)]
theorem RL {s:ay}(h:s.size≠0):s.toList≠[]:=by
 rw[ByteArray.toList_eq];intro e;have:=eZ s;rw[e] at this;exact h this
theorem uK (s:ay)(w)(hg:Gb w)(hs:s.size<=281474976710656):
 Calls prog 80 #[C s] w λe w'=>e= .returned (.tuple #[I J ((tD s).getD 0),.bool (tD s).isSome])/\Below w.heap.size w w':=by
 cases ha:Lib.atoiAll s.data.toList with
 | ok v=>
  have h0:s.size≠0:=by
   intro h0;have:s.data.toList=[]:=by
    have:=eZ s;rw[h0] at this;exact cP this.symm
   rw[this] at ha;cases ha
  have hne:=RL h0;have n1:(s.toList==[])=z:=by rw[aX];exact hne
  have n2:decide (s.toList=[])=z:=aC hne;have n3:s.toList.isEmpty=z:=by cases h:s.toList with | nil=>exact absurd h hne | cons=>rfl
  have HU:=VK ha;have AT:Calls prog 115 #[C s] w λe w'=>e= .returned (.tuple #[I J v,.nilIface])/\Below w.heap.size w w':=by
   refine(Tryz.strconv_Atoi_ok s om v ha w).mono ?_;rintro e w2 ⟨rfl,rfl | ⟨t,rfl⟩⟩
   ·exact⟨D,aa4 _ _⟩
   ·exact⟨D,Lib.bytesWorld_below _ _ _⟩
  replace AT:=H AT;clear ha;by_cases hd:eD v=s;rw[aA ⟨hd,h0⟩] at HU;rotate_left;rw[az (λh=>hd h.1)] at HU;rotate_left
  all_goals
   rw[HU];have DC:=λW (hb:Below w.heap.size w W)=>mD v W (hg.below hb (aB _))
  rw[hd] at DC;clear hd HU hne h0;rotate_left;have ne:=Ic hd;clear HU hne h0 hd;generalize eD v=aq at DC ne;rotate_left
  all_goals
   go_enter func80,ntmps80
   go_wp2_with fail
   refine AT.mono ?_;rintro e w2 ⟨rfl,hb⟩;obtain⟨DC2,HB⟩:=eN (DC _ hb) hb
   go_wp2_with (go_at_call 51;refine DC2.mono ?_;rintro e w2 ⟨rfl,hb2⟩;have HB2:=H hb2;clear hb2)
   go_ret2
   exact⟨D,HB.trans (HB2.mono HB.size)⟩
 | range=>
  obtain⟨t,p,hv⟩:=hg.c3;have HU:tD s=E:=by unfold tD JL;rw[ha]
  rw[HU];have AT:=H (Tryz.strconv_Atoi_range s hs ha _ w hv (aI ⟨t,p,D⟩));clear ha HU hv;exact rC
 | _=>
  obtain⟨t,p,hv⟩:=hg.c2;have HU:tD s=E:=by unfold tD JL;rw[ha]
  rw[HU];have AT:=H (Tryz.strconv_Atoi_syntax s hs ha _ w hv (aI ⟨t,p,D⟩));clear ha HU hv;exact rC
def Ev.cells (e:Ev):Array Value:=#[I J e.kind,I J e.time,C e.user,C e.other,I J e.n,I J e.st]
def Ev.v (e:Ev):Value:=.agg e.cells
def iP (n lo hi:Int):Bool:=decide (lo<=n)&&decide (n<=hi)
theorem gJ (n lo hi:Int)(w):Calls prog 248 #[I J n,I J lo,I J hi] w λe w'=>e= .returned (.bool (iP n lo hi))/\w=w':=by
 have HE:=H (show iP n lo hi=(decide (lo<=n)&&decide (n<=hi)) from rfl);by_cases h1:lo<=n;have d1:decide (lo<=n)=Q:=aF h1;rotate_left;have d1:decide (lo<=n)=z:=aC h1;rotate_left
 all_goals
  rw[d1] at HE
  go_enter func248,ntmps248
  exact ib
def fL (e:Ev):Bool:=
 if e.kind=1∨e.kind=2 then iP e.time 0 1099511627775&&iP e.st 1 4&&iP e.n 1 999&&gD e.user&&decide (e.other.size=0)
 else if e.kind=3 then iP e.time 0 1099511627775&&iP e.n 1 999&&gD e.user&&decide (e.other.size=0/\e.st=0)
 else if e.kind=7 then iP e.time 0 1099511627775&&gD e.user&&decide (e.other.size=0/\e.n=0/\e.st=0)
 else if e.kind=4∨e.kind=5 then iP e.time 0 1099511627775&&(gD e.user&&gD e.other)&&decide (e.n=0/\e.st=0)
 else if e.kind=6 then iP e.time 0 1099511627775&&iP e.n 0 1099511627775&&decide (e.user.size=0/\e.other.size=0/\e.st=0)
 else z
structure EX (W:World)(A X:Nat)(ec xc:Array Value):Prop where
 a:Ds.fP W A 115 ec
 x:Ds.fP W X 115 xc
 ne:X≠A
theorem EX.set(h:EX W A X ec xc)(j:Nat)(v):EX (W.setCell ⟨X,j,E⟩ v) A X ec (xc.setIfInBounds j v):=
 ⟨h.a.fw (λe=>h.ne e.symm) v,h.x.mu j v,h.ne⟩
theorem gW(h:Below w.heap.size w W)(hX:w.heap.size<=X)(j:Nat)(v):Below w.heap.size w (W.setCell ⟨X,j,E⟩ v):=
 ⟨h.os,h.tape,h.output,jv,λk hk=>(aa0 W _ v k (by show k≠X;omega)).trans (h.block k hk)⟩
theorem EX.drew(h:EX W A X ec xc):EX W.drew A X ec xc:=⟨h.a,h.x,h.ne⟩
theorem nB(h:Below B w W):Below B w W.drew:=⟨h.os,h.tape,h.output,h.size,h.block⟩
theorem GB:(⟨#[]⟩:ay).toList=[]:=by rw[ByteArray.toList_eq]
theorem tu (w:World)(ec xc:Array Value):EX ((w.alloc (.cells ec 115)).alloc (.cells xc 115)) w.heap.size (w.heap.size+1) ec xc:=
 ⟨(Ds.fP.new _ _ _).alloc _,by have:=Ds.fP.new (w.alloc (.cells ec 115)) 115 xc;simpa using this,om⟩
def lI (e:Ev):List ay:=
 if e.kind=4∨e.kind=5 then [e.user,e.other]
 else if e.kind=6 then [eD e.n]
 else if e.kind=7 then [e.user]
 else if e.kind=3 then [e.user,eD e.n]
 else [e.user,eD e.n,eD e.st]
theorem Ua{n s:Int}(h:w.cell? ⟨A,2,E⟩=G (C u)/\w.cell? ⟨A,4,E⟩=G (I J n)/\w.cell? ⟨A,5,E⟩=G (I J s)/\Below V.heap.size V w):
 w.drew.cell? ⟨A,2,E⟩=G (C u)/\w.drew.cell? ⟨A,4,E⟩=G (I J n)/\w.drew.cell? ⟨A,5,E⟩=G (I J s)/\Below V.heap.size V w.drew:=
 ⟨h.1,h.2.1,h.2.2.1,nB h.2.2.2⟩
theorem Jl{n s:Int}(h:w.cell? ⟨A,2,E⟩=G (C u)/\w.cell? ⟨A,4,E⟩=G (I J n)/\w.cell? ⟨A,5,E⟩=G (I J s)/\Below V.heap.size V w)(hb:Below w.heap.size w w'):
 w'.cell? ⟨A,2,E⟩=G (C u)/\w'.cell? ⟨A,4,E⟩=G (I J n)/\w'.cell? ⟨A,5,E⟩=G (I J s)/\Below V.heap.size V w':=
 ⟨(hb.cell (eU h.1)).trans h.1,(hb.cell (eU h.2.1)).trans h.2.1,(hb.cell (eU h.2.2.1)).trans h.2.2.1,h.2.2.2.trans (hb.mono h.2.2.2.size)⟩
theorem yF:Below w.heap.size w w.drew:=⟨D,D,D,aB _,λ_ _=>rfl⟩
theorem nH (w:World)(F:List ay)(n:Nat)(hn:n=F.length)(cs:Array Value)(hc:cs=(F.map Value.string).toArray):eO (w.alloc (.cells cs 9)) (Z (G ⟨w.heap.size,0,E⟩) n n) F:=by
 subst hn hc;have BU:=Ds.fP.new w 9 (F.map Value.string).toArray;exact qY
theorem GI:(∀ (t n s:Int) (u o:ay) (w:World) (hg:Gb w),Calls prog 246 #[.agg #[I J 4,I J t,C u,C o,I J n,I J s]] w λe' w'=>∃ v,e'= .returned v/\eO w' v [u,o]/\Below w.heap.size w w')/\
 (∀ (t n s:Int) (u o:ay) (w:World) (hg:Gb w),Calls prog 246 #[.agg #[I J 5,I J t,C u,C o,I J n,I J s]] w λe' w'=>∃ v,e'= .returned v/\eO w' v [u,o]/\Below w.heap.size w w')/\
 (∀ (t n s:Int) (u o:ay) (w:World) (hg:Gb w),Calls prog 246 #[.agg #[I J 7,I J t,C u,C o,I J n,I J s]] w λe' w'=>∃ v,e'= .returned v/\eO w' v [u]/\Below w.heap.size w w'):=by
 refine⟨?_,?_,?_⟩
 all_goals intro t n s u o w hg
 obtain⟨V,hV⟩:=fe (w.alloc (.cells #[I J 4,I J t,C u,C o,I J n,I J s] 115));have BV:=H (show Ds.fP V w.heap.size 115 #[I J 4,I J t,C u,C o,I J n,I J s] by rw[hV];exact Ds.fP.new _ _ _);rotate_left;obtain⟨V,hV⟩:=fe (w.alloc (.cells #[I J 5,I J t,C u,C o,I J n,I J s] 115));have BV:=H (show Ds.fP V w.heap.size 115 #[I J 5,I J t,C u,C o,I J n,I J s] by rw[hV];exact Ds.fP.new _ _ _);rotate_left;obtain⟨V,hV⟩:=fe (w.alloc (.cells #[I J 7,I J t,C u,C o,I J n,I J s] 115));have BV:=H (show Ds.fP V w.heap.size 115 #[I J 7,I J t,C u,C o,I J n,I J s] by rw[hV];exact Ds.fP.new _ _ _);rotate_left
 all_goals
  have HB:=H (show Below w.heap.size w V by rw[hV];exact eT _ _);have HG:=H (hg.below HB (aB _));clear hg;obtain⟨A,hA,HA⟩:=nh w.heap.size;rw[<-hA] at BV;obtain⟨c0,c1,c2,c3,c4,c5⟩:=jF BV
  go_enter func246,ntmps246
  go_upto_region 1 with fail
  rw[<-hV,<-hA];clear hV hA
  go_wp2_with fail
  go_ret
 ·exact⟨_,D,nH _ [u,o] _ D _ D,(HB.trans ((eT _ _).mono HB.size))⟩
 ·exact⟨_,D,nH _ [u,o] _ D _ D,(HB.trans ((eT _ _).mono HB.size))⟩
 ·exact⟨_,D,nH _ [u] _ D _ D,(HB.trans ((eT _ _).mono HB.size))⟩
theorem VE (t n s:Int)(u o:ay)(w)(hg:Gb w):
 Calls prog 246 #[.agg #[I J 6,I J t,C u,C o,I J n,I J s]] w λe' w'=>∃ v,e'= .returned v/\eO w' v [eD n]/\Below w.heap.size w w':=by
 obtain⟨V,hV⟩:=fe (w.alloc (.cells #[I J 6,I J t,C u,C o,I J n,I J s] 115));obtain⟨BV,HB⟩:=eN (show Ds.fP V w.heap.size 115 #[I J 6,I J t,C u,C o,I J n,I J s] by rw[hV];exact Ds.fP.new _ _ _) (show Below w.heap.size w V by rw[hV];exact eT _ _);have HG:=H (hg.below HB (aB _));clear hg;obtain⟨A,hA,HA⟩:=nh w.heap.size;rw[<-hA] at BV;obtain⟨c0,c1,c2,c3,c4,c5⟩:=jF BV;have DN:=H (mD n V HG);generalize eD n=dn at DN ⊢
 go_enter func246,ntmps246
 go_upto_region 1 with fail
 rw[<-hV,<-hA];clear hV hA
 go_wp2_with (go_at_call 51;refine DN.mono ?_;rintro e w2 ⟨rfl,hb2⟩;have HB2:=H hb2;clear hb2)
 go_ret;exact⟨_,D,nH _ [dn] _ D _ D,HB.trans ((HB2.alloc HB2.size _).mono HB.size)⟩
theorem VF (t n s:Int)(u o:ay)(w)(hg:Gb w):
 Calls prog 246 #[.agg #[I J 3,I J t,C u,C o,I J n,I J s]] w λe' w'=>∃ v,e'= .returned v/\eO w' v [u,eD n]/\Below w.heap.size w w':=by
 obtain⟨V,hV⟩:=fe (w.alloc (.cells #[I J 3,I J t,C u,C o,I J n,I J s] 115));obtain⟨BV,HB⟩:=eN (show Ds.fP V w.heap.size 115 #[I J 3,I J t,C u,C o,I J n,I J s] by rw[hV];exact Ds.fP.new _ _ _) (show Below w.heap.size w V by rw[hV];exact eT _ _);have HG:=H (hg.below HB (aB _));clear hg;obtain⟨A,hA,HA⟩:=nh w.heap.size;rw[<-hA] at BV;obtain⟨c0,c1,c2,c3,c4,c5⟩:=jF BV;have DN:=H (λW (hb:Below V.heap.size V W)=>mD n W (HG.below hb (aB _)));generalize eD n=dn at DN ⊢
 go_enter func246,ntmps246
 go_upto_region 1 with fail
 rw[<-hV,<-hA];clear hV hA
 go_upto_region 10 with fail
 go_region_held3 (λw'=>w'.cell? ⟨A,2,E⟩=G (C u)/\w'.cell? ⟨A,4,E⟩=G (I J n)/\w'.cell? ⟨A,5,E⟩=G (I J s)/\Below V.heap.size V w')
  (first | exact Ua ⟨c2,c4,c5,aa4 _ _⟩ | exact Jl ms (eT _ _) | exact Jl ms hb3 | exact ms)
  (first | (go_at_call 51;refine qx (DN _ (bc (bc (bc ms)))) λw3 hb3=>?_) | fail)
 have HW3:Below V.heap.size V (w3.alloc (.cells #[C u,C dn] 9)):=bc (bc (bc (by assumption:(w3.alloc (.cells #[C u,C dn] 9)).cell? ⟨A,2,E⟩=G (C u)/\(w3.alloc (.cells #[C u,C dn] 9)).cell? ⟨A,4,E⟩=G (I J n)/\(w3.alloc (.cells #[C u,C dn] 9)).cell? ⟨A,5,E⟩=G (I J s)/\Below V.heap.size V (w3.alloc (.cells #[C u,C dn] 9)))));replace HW3:=H HW3
 go_wp2_with fail
 go_ret;exact⟨_,D,nH _ [u,dn] _ D _ D,HB.trans (HW3.mono HB.size)⟩
theorem VG (k t n s:Int)(u o:ay)(w)(hg:Gb w)(h3:k≠3)(h4:k≠4)(h5:k≠5)(h6:k≠6)(h7:k≠7):
 Calls prog 246 #[.agg #[I J k,I J t,C u,C o,I J n,I J s]] w λe' w'=>∃ v,e'= .returned v/\eO w' v [u,eD n,eD s]/\Below w.heap.size w w':=by
 obtain⟨V,hV⟩:=fe (w.alloc (.cells #[I J k,I J t,C u,C o,I J n,I J s] 115));obtain⟨BV,HB⟩:=eN (show Ds.fP V w.heap.size 115 #[I J k,I J t,C u,C o,I J n,I J s] by rw[hV];exact Ds.fP.new _ _ _) (show Below w.heap.size w V by rw[hV];exact eT _ _);have HG:=H (hg.below HB (aB _));clear hg;obtain⟨A,hA,HA⟩:=nh w.heap.size;rw[<-hA] at BV;obtain⟨c0,c1,c2,c3,c4,c5⟩:=jF BV;have k3:(k==3)=z:=aX.2 h3;have j3:decide (k=3)=z:=aC h3;have k4:(k==4)=z:=aX.2 h4;have j4:decide (k=4)=z:=aC h4;have k5:(k==5)=z:=aX.2 h5;have j5:decide (k=5)=z:=aC h5;have k6:(k==6)=z:=aX.2 h6;have j6:decide (k=6)=z:=aC h6;have k7:(k==7)=z:=aX.2 h7;have j7:decide (k=7)=z:=aC h7;have DN:=H (λW (hb:Below V.heap.size V W)=>mD n W (HG.below hb (aB _)));generalize eD n=dn at DN ⊢;have DS:=H (λW (hb:Below V.heap.size V W)=>mD s W (HG.below hb (aB _)));generalize eD s=ds at DS ⊢
 go_enter func246,ntmps246
 go_upto_region 1 with fail
 rw[<-hV,<-hA];clear hV hA
 go_upto_region 11 with fail
 refine ab8 ?_;refine ab3 (S:=λw'=>Below V.heap.size V w'/\w'.cell? ⟨A,2,E⟩=G (C u)/\w'.cell? ⟨A,4,E⟩=G (I J n)/\w'.cell? ⟨A,5,E⟩=G (I J s)) kr ⟨yF,c2,c4,c5⟩ (λhS=>?_);refine aa5 (i:=0) (v:=?_) D kr kr kr (λ_ _ _ h=>h) (aG ⟨by rfl,?_⟩) hS ?_;rotate_left
 ·intro wx hSx;exact iL
 simp only[Act.put,gz,gy];refine aa5 (i:=1) (v:=?_) D kr kr kr (λ_ _ _ h=>h) (aG ⟨by rfl,?_⟩) hS ?_;rotate_left
 ·intro wx hSx;exact iL
 simp only[Act.put,gz,gy];refine aa5 (i:=2) (v:=?_) D kr kr kr (λ_ _ _ h=>h) (aG ⟨by rfl,?_⟩) hS ?_;rotate_left
 ·intro wx hSx;exact iL
 simp only[Act.put,gz,gy];refine aa5 (i:=3) (v:=?_) D kr kr kr (λ_ _ _ h=>h) (aG ⟨by rfl,?_⟩) hS ?_;rotate_left
 ·intro wx hSx;exact iL
 simp only[Act.put,gz,gy];refine aa5 (i:=5) (v:=?_) D kr kr kr (λ_ _ _ h=>h) (aG ⟨by rfl,?_⟩) hS ?_;rotate_left
 ·intro wx hSx;exact iL
 simp only[Act.put,gz,gy];refine aa5 (i:=6) (v:=?_) D kr kr kr (λ_ _ _ h=>h) (aG ⟨by rfl,?_⟩) hS ?_;rotate_left
 ·intro wx hSx;exact iL
 simp only[Act.put,gz,gy];refine vO 4 λK hK=>?_;simp only[gz];go_simp;refine qx (DN _ hS.1) λw2 hbA=>?_;refine hK _ _ ⟨hS.1.trans (hbA.mono hS.1.size),(hbA.cell (eU hS.2.1)).trans hS.2.1,(hbA.cell (eU hS.2.2.1)).trans hS.2.2.1,(hbA.cell (eU hS.2.2.2)).trans hS.2.2.2⟩ (λhS0=>?_);refine vO 7 λK hK=>?_;simp only[gz];go_simp;refine qx (DS _ hS0.1) λw3 hbA=>?_;refine hK _ _ ⟨hS0.1.trans (hbA.mono hS0.1.size),(hbA.cell (eU hS0.2.1)).trans hS0.2.1,(hbA.cell (eU hS0.2.2.1)).trans hS0.2.2.1,(hbA.cell (eU hS0.2.2.2)).trans hS0.2.2.2⟩ (λhS1=>?_);refine vO 8 λK hK=>?_;simp only[gz];go_simp;refine hK _ _ ⟨hS1.1.trans (((eT _ _)).mono hS1.1.size),(((eT _ _)).cell (eU hS1.2.1)).trans hS1.2.1,(((eT _ _)).cell (eU hS1.2.2.1)).trans hS1.2.2.1,(((eT _ _)).cell (eU hS1.2.2.2)).trans hS1.2.2.2⟩ (λhS2=>?_);refine aa5 (i:=9) (v:=?_) D kr kr kr (λ_ _ _ h=>h) (aG ⟨by rfl,?_⟩) hS2 ?_;rotate_left
 ·intro wx hSx;exact iL
 simp only[Act.put,gz,gy];refine Vj ?_;replace hS2:=H hS2.1
 go_wp2_with fail
 go_ret;exact⟨_,D,nH _ [u,dn,ds] _ D _ D,HB.trans (hS2.mono HB.size)⟩
theorem JE (e:Ev)(w)(hg:Gb w):
 Calls prog 246 #[e.v] w λe' w'=>∃ v,e'= .returned v/\eO w' v (lI e)/\Below w.heap.size w w':=by
 obtain⟨k,t,u,o,n,s⟩:=e;unfold Ev.v Ev.cells lI;simp only;by_cases h4:k=4
 ·subst h4;exact GI.1 t n s u o w hg
 by_cases h5:k=5
 ·subst h5;exact GI.2.1 t n s u o w hg
 rw[az om];by_cases h6:k=6
 ·subst h6;exact VE t n s u o w hg
 rw[az h6];by_cases h7:k=7
 ·subst h7;exact GI.2.2 t n s u o w hg
 rw[az h7];by_cases h3:k=3
 ·subst h3;exact VF t n s u o w hg
 rw[az h3];exact VG k t n s u o w hg h3 h4 h5 h6 h7
def iS (F:List ay)(k:Nat):ay:=F.getD k (bs [])
def e8 (F:List ay)(k:Nat):Int:=(tD (iS F k)).getD 0
theorem Hy:(tD (bs [])).getD 0=0:=rfl
theorem JF (F)(v)(k:Nat)(w)(h:eO w v F)(hk:k<=100):
 Calls prog 184 #[v,I J k] w λe w'=>e= .returned (C (iS F k))/\w=w':=by
 obtain⟨A,cap,rfl,hc⟩:=h;obtain⟨n,hn,HN⟩:=nh F.length;rw[<-hn];clear hn;by_cases hlt:k<n
 ·have hk':k<F.length:=by rw[<-HN.out];exact hlt
  obtain⟨g,off,rfl,hg,hcap,hcl⟩:=hc abr;have c0:=hcl k hk';have HE:=H (show iS F k=F[k] by unfold iS;simp[hk']);clear hcl hcap hc;generalize F[k]=s at c0 HE;have i0:(0:Int)<=(k:Int):=om;have i1:(k:Int)<n:=om;have i2:¬(n:Int)<=k:=om;have d2:decide ((n:Int)<=k)=z:=aC i2
  go_enter func184,ntmps184
  exact ib
 ·have HE:=H (show iS F k=bs [] by unfold iS;rw[db,b6 ju];rfl);have i2:(n:Int)<=k:=om;have d2:decide ((n:Int)<=k)=Q:=aF i2;clear hc
  go_enter func184,ntmps184
  exact ib
theorem xZ (F)(v)(k:Nat)(w)(hg:Gb w)(h:eO w v F)(hF:∀ s∈F,s.size<=1000000)(hk:k<=100):
 Calls prog 183 #[v,I J k] w λe w'=>e= .returned (I J (e8 F k))/\Below w.heap.size w w':=by
 obtain⟨A,cap,rfl,hc⟩:=h;obtain⟨n,hn,HN⟩:=nh F.length;rw[<-hn];clear hn;by_cases hlt:k<n
 ·have hk':k<F.length:=by rw[<-HN.out];exact hlt
  obtain⟨g,off,rfl,hg2,hcap,hcl⟩:=hc abr;have c0:=hcl k hk';have hsz:=hF F[k] (aV _);obtain⟨HE,UD⟩:=eN (show e8 F k=(tD F[k]).getD 0 by unfold e8 iS;simp[hk']) (uK F[k] w hg om);clear hcl hcap hc hF hsz;generalize F[k]=s at c0 HE UD;have i0:(0:Int)<=(k:Int):=om;have i1:(k:Int)<n:=om;have i2:¬(n:Int)<=k:=om;have d2:decide ((n:Int)<=k)=z:=aC i2
  go_enter func183,ntmps183
  go_wp2_with (go_at_call 80;refine UD.mono ?_;rintro e w2 ⟨rfl,hb2⟩;have HB2:=H hb2;clear hb2)
  go_ret;exact⟨by rw[HE.out];rfl,HB2⟩
 ·have HE:=H (show e8 F k=0 by unfold e8 iS;rw[db,b6 ju];exact Hy);have i2:(n:Int)<=k:=om;have d2:decide ((n:Int)<=k)=Q:=aF i2;clear hc
  go_enter func183,ntmps183
  exact abi
theorem YA (t n s:Int)(u o:ay)(w:World)(us:u.size<=1000000)(os:o.size<=1000000)(ht:iP t 0 1099511627775=Q)(hC:iP s 1 4=Q)(hD:iP n 1 999=Q)(hU:gD u=Q):
 Calls prog 188 #[.agg #[I J 1,I J t,C u,ax,I J n,I J s]] w λe w'=>e= .returned (.bool Q)/\Below w.heap.size w w':=by
 have uso:=aJ (aJ us os) (show(n,s)=(n,s) from rfl);clear uso;have WT:=λw=>gJ t 0 1099511627775 w;rw[ht] at WT;have WC:=λw=>gJ s 1 4 w;rw[hC] at WC;have WD:=λw=>gJ n 1 999 w;rw[hD] at WD;have WU:=λw=>kj u w om;rw[hU] at WU;clear us os ht hC hD hU;obtain⟨X,hX⟩:=fe (w.heap.size+1);obtain⟨V1,hV1⟩:=fe ((w.alloc (.cells #[I J 1,I J t,C u,ax,I J n,I J s] 115)).alloc (.cells #[I J 1,I J t,ax,ax,av,I J s] 115));obtain⟨B1,E1⟩:=eN (show Below w.heap.size w V1 by rw[hV1];exact(eT _ _).alloc sm _) (show EX V1 w.heap.size X #[I J 1,I J t,C u,ax,I J n,I J s] #[I J 1,I J t,ax,ax,av,I J s] by rw[hV1,hX];exact tu _ _ _);have hXw:w.heap.size<=X:=om;obtain⟨V2,hV2,HV2⟩:=nh (V1.setCell ⟨X,4,E⟩ (I J n));obtain⟨E2,B2⟩:=eN (show EX V2 w.heap.size X #[I J 1,I J t,C u,ax,I J n,I J s] #[I J 1,I J t,ax,ax,I J n,I J s] by rw[hV2];exact E1.set 4 _) (show Below w.heap.size w V2 by rw[hV2];exact gW B1 hXw _ _);clear hV2;obtain⟨V3,hV3,HV3⟩:=nh (V2.setCell ⟨X,2,E⟩ (C u));obtain⟨E3,B3⟩:=eN (show EX V3 w.heap.size X #[I J 1,I J t,C u,ax,I J n,I J s] #[I J 1,I J t,C u,ax,I J n,I J s] by rw[hV3];exact E2.set 2 _) (show Below w.heap.size w V3 by rw[hV3];exact gW B2 hXw _ _);clear hV3
 go_enter func188,ntmps188
 go_upto_region 12 with(go_at_call 248;refine QS (WT _) ?_)
 rw[<-hV1,<-hX];clear hV1 hX;obtain⟨a0,a1,a2,a3,a4,a5⟩:=jF E1.a;obtain⟨x0,x1,x2,x3,x4,x5⟩:=jF E1.x;have f2:V1.frozen? ⟨X,2,E⟩=z:=E1.x.frozen 2;have f4:V1.frozen? ⟨X,4,E⟩=z:=E1.x.frozen 4
 go_upto_region 14 with(go_at_call 248;refine QS (WC _) ?_)
 rw[<-HV2.out];obtain⟨a0,a1,a2,a3,a4,a5⟩:=jF E2.a;obtain⟨x0,x1,x2,x3,x4,x5⟩:=jF E2.x;have f2:V2.frozen? ⟨X,2,E⟩=z:=E2.x.frozen 2;have f4:V2.frozen? ⟨X,4,E⟩=z:=E2.x.frozen 4
 go_upto_region 16 with(go_at_call 248;refine QS (WD _) ?_)
 rw[<-HV3.out];obtain⟨a0,a1,a2,a3,a4,a5⟩:=jF E3.a;obtain⟨x0,x1,x2,x3,x4,x5⟩:=jF E3.x;have f2:V3.frozen? ⟨X,2,E⟩=z:=E3.x.frozen 2;have f4:V3.frozen? ⟨X,4,E⟩=z:=E3.x.frozen 4
 go_upto_region 22 with(go_at_call 23;refine QS (WU _) ?_)
 go_wp2_with fail
 go_ret;exact⟨D,B3⟩
theorem Yz (t n s:Int)(u o:ay)(w:World)(us:u.size<=1000000)(os:o.size<=1000000)(ht:iP t 0 1099511627775=Q)(hC:iP s 1 4=Q)(hD:iP n 1 999=Q)(hU:gD u=Q):
 Calls prog 188 #[.agg #[I J 2,I J t,C u,ax,I J n,I J s]] w λe w'=>e= .returned (.bool Q)/\Below w.heap.size w w':=by
 have uso:=aJ (aJ us os) (show(n,s)=(n,s) from rfl);clear uso;have WT:=λw=>gJ t 0 1099511627775 w;rw[ht] at WT;have WC:=λw=>gJ s 1 4 w;rw[hC] at WC;have WD:=λw=>gJ n 1 999 w;rw[hD] at WD;have WU:=λw=>kj u w om;rw[hU] at WU;clear us os ht hC hD hU;obtain⟨X,hX⟩:=fe (w.heap.size+1);obtain⟨V1,hV1⟩:=fe ((w.alloc (.cells #[I J 2,I J t,C u,ax,I J n,I J s] 115)).alloc (.cells #[I J 2,I J t,ax,ax,av,I J s] 115));obtain⟨B1,E1⟩:=eN (show Below w.heap.size w V1 by rw[hV1];exact(eT _ _).alloc sm _) (show EX V1 w.heap.size X #[I J 2,I J t,C u,ax,I J n,I J s] #[I J 2,I J t,ax,ax,av,I J s] by rw[hV1,hX];exact tu _ _ _);have hXw:w.heap.size<=X:=om;obtain⟨V2,hV2,HV2⟩:=nh (V1.setCell ⟨X,4,E⟩ (I J n));obtain⟨E2,B2⟩:=eN (show EX V2 w.heap.size X #[I J 2,I J t,C u,ax,I J n,I J s] #[I J 2,I J t,ax,ax,I J n,I J s] by rw[hV2];exact E1.set 4 _) (show Below w.heap.size w V2 by rw[hV2];exact gW B1 hXw _ _);clear hV2;obtain⟨V3,hV3,HV3⟩:=nh (V2.setCell ⟨X,2,E⟩ (C u));obtain⟨E3,B3⟩:=eN (show EX V3 w.heap.size X #[I J 2,I J t,C u,ax,I J n,I J s] #[I J 2,I J t,C u,ax,I J n,I J s] by rw[hV3];exact E2.set 2 _) (show Below w.heap.size w V3 by rw[hV3];exact gW B2 hXw _ _);clear hV3
 go_enter func188,ntmps188
 go_upto_region 12 with(go_at_call 248;refine QS (WT _) ?_)
 rw[<-hV1,<-hX];clear hV1 hX;obtain⟨a0,a1,a2,a3,a4,a5⟩:=jF E1.a;obtain⟨x0,x1,x2,x3,x4,x5⟩:=jF E1.x;have f2:V1.frozen? ⟨X,2,E⟩=z:=E1.x.frozen 2;have f4:V1.frozen? ⟨X,4,E⟩=z:=E1.x.frozen 4
 go_upto_region 14 with(go_at_call 248;refine QS (WC _) ?_)
 rw[<-HV2.out];obtain⟨a0,a1,a2,a3,a4,a5⟩:=jF E2.a;obtain⟨x0,x1,x2,x3,x4,x5⟩:=jF E2.x;have f2:V2.frozen? ⟨X,2,E⟩=z:=E2.x.frozen 2;have f4:V2.frozen? ⟨X,4,E⟩=z:=E2.x.frozen 4
 go_upto_region 16 with(go_at_call 248;refine QS (WD _) ?_)
 rw[<-HV3.out];obtain⟨a0,a1,a2,a3,a4,a5⟩:=jF E3.a;obtain⟨x0,x1,x2,x3,x4,x5⟩:=jF E3.x;have f2:V3.frozen? ⟨X,2,E⟩=z:=E3.x.frozen 2;have f4:V3.frozen? ⟨X,4,E⟩=z:=E3.x.frozen 4
 go_upto_region 22 with(go_at_call 23;refine QS (WU _) ?_)
 go_wp2_with fail
 go_ret;exact⟨D,B3⟩
theorem Yy (t n s:Int)(u o:ay)(w:World)(us:u.size<=1000000)(os:o.size<=1000000)(ht:iP t 0 1099511627775=Q)(hD:iP n 1 999=Q)(hU:gD u=Q):
 Calls prog 188 #[.agg #[I J 3,I J t,C u,ax,I J n,av]] w λe w'=>e= .returned (.bool Q)/\Below w.heap.size w w':=by
 have uso:=aJ (aJ us os) (show(n,s)=(n,s) from rfl);clear uso;have WT:=λw=>gJ t 0 1099511627775 w;rw[ht] at WT;have WD:=λw=>gJ n 1 999 w;rw[hD] at WD;have WU:=λw=>kj u w om;rw[hU] at WU;clear us os ht hD hU;obtain⟨X,hX⟩:=fe (w.heap.size+1);obtain⟨V1,hV1⟩:=fe ((w.alloc (.cells #[I J 3,I J t,C u,ax,I J n,av] 115)).alloc (.cells #[I J 3,I J t,ax,ax,I J n,av] 115));obtain⟨B1,E1⟩:=eN (show Below w.heap.size w V1 by rw[hV1];exact(eT _ _).alloc sm _) (show EX V1 w.heap.size X #[I J 3,I J t,C u,ax,I J n,av] #[I J 3,I J t,ax,ax,I J n,av] by rw[hV1,hX];exact tu _ _ _);have hXw:w.heap.size<=X:=om;obtain⟨V2,hV2,HV2⟩:=nh (V1.setCell ⟨X,2,E⟩ (C u));obtain⟨E2,B2⟩:=eN (show EX V2 w.heap.size X #[I J 3,I J t,C u,ax,I J n,av] #[I J 3,I J t,C u,ax,I J n,av] by rw[hV2];exact E1.set 2 _) (show Below w.heap.size w V2 by rw[hV2];exact gW B1 hXw _ _);clear hV2
 go_enter func188,ntmps188
 go_upto_region 14 with(go_at_call 248;refine QS (WT _) ?_)
 rw[<-hV1,<-hX];clear hV1 hX;obtain⟨a0,a1,a2,a3,a4,a5⟩:=jF E1.a;obtain⟨x0,x1,x2,x3,x4,x5⟩:=jF E1.x;have f2:V1.frozen? ⟨X,2,E⟩=z:=E1.x.frozen 2;have f4:V1.frozen? ⟨X,4,E⟩=z:=E1.x.frozen 4
 go_upto_region 16 with(go_at_call 248;refine QS (WD _) ?_)
 rw[<-HV2.out];obtain⟨a0,a1,a2,a3,a4,a5⟩:=jF E2.a;obtain⟨x0,x1,x2,x3,x4,x5⟩:=jF E2.x;have f2:V2.frozen? ⟨X,2,E⟩=z:=E2.x.frozen 2;have f4:V2.frozen? ⟨X,4,E⟩=z:=E2.x.frozen 4
 go_upto_region 22 with(go_at_call 23;refine QS (WU _) ?_)
 go_wp2_with fail
 go_ret;exact⟨D,B2⟩
theorem Yu (t n s:Int)(u o:ay)(w:World)(us:u.size<=1000000)(os:o.size<=1000000)(ht:iP t 0 1099511627775=Q)(hU:gD u=Q):
 Calls prog 188 #[.agg #[I J 7,I J t,C u,ax,av,av]] w λe w'=>e= .returned (.bool Q)/\Below w.heap.size w w':=by
 have uso:=aJ (aJ us os) (show(n,s)=(n,s) from rfl);clear uso;have WT:=λw=>gJ t 0 1099511627775 w;rw[ht] at WT;have WU:=λw=>kj u w om;rw[hU] at WU;clear us os ht hU;obtain⟨X,hX⟩:=fe (w.heap.size+1);obtain⟨V1,hV1⟩:=fe ((w.alloc (.cells #[I J 7,I J t,C u,ax,av,av] 115)).alloc (.cells #[I J 7,I J t,C u,ax,av,av] 115));obtain⟨B1,E1⟩:=eN (show Below w.heap.size w V1 by rw[hV1];exact(eT _ _).alloc sm _) (show EX V1 w.heap.size X #[I J 7,I J t,C u,ax,av,av] #[I J 7,I J t,C u,ax,av,av] by rw[hV1,hX];exact tu _ _ _);have hXw:w.heap.size<=X:=om
 go_enter func188,ntmps188
 go_upto_region 16 with(go_at_call 248;refine QS (WT _) ?_)
 rw[<-hV1,<-hX];clear hV1 hX;obtain⟨a0,a1,a2,a3,a4,a5⟩:=jF E1.a;obtain⟨x0,x1,x2,x3,x4,x5⟩:=jF E1.x;have f2:V1.frozen? ⟨X,2,E⟩=z:=E1.x.frozen 2;have f4:V1.frozen? ⟨X,4,E⟩=z:=E1.x.frozen 4
 go_upto_region 22 with(go_at_call 23;refine QS (WU _) ?_)
 go_wp2_with fail
 go_ret;exact⟨D,B1⟩
theorem Yx (t n s:Int)(u o:ay)(w:World)(us:u.size<=1000000)(os:o.size<=1000000)(ht:iP t 0 1099511627775=Q)(hP:(gD u&&gD o)=Q):
 Calls prog 188 #[.agg #[I J 4,I J t,C u,C o,av,av]] w λe w'=>e= .returned (.bool Q)/\Below w.heap.size w w':=by
 have uso:=aJ (aJ us os) (show(n,s)=(n,s) from rfl);clear uso;have WT:=λw=>gJ t 0 1099511627775 w;rw[ht] at WT;clear ht;obtain⟨X,hX⟩:=fe (w.heap.size+1);obtain⟨V0,hV0,HV0⟩:=nh ((w.alloc (.cells #[I J 4,I J t,C u,C o,av,av] 115)).alloc (.cells #[I J 4,I J t,ax,ax,av,av] 115));have E0:=H (show EX V0 w.heap.size X #[I J 4,I J t,C u,C o,av,av] #[I J 4,I J t,ax,ax,av,av] by rw[hV0,hX];exact tu _ _ _);clear hV0;obtain⟨V1,hV1⟩:=fe (((V0.setCell ⟨X,2,E⟩ (C u)).setCell ⟨X,3,E⟩ (C o)).drew);have B1:=H (show Below w.heap.size w V1 by rw[hV1];exact nB (gW (gW (by rw[HV0.out];exact(eT _ _).alloc sm _) om _ _) om _ _));have E1:=H (show EX V1 w.heap.size X #[I J 4,I J t,C u,C o,av,av] #[I J 4,I J t,C u,C o,av,av] by rw[hV1];exact((E0.set 2 _).set 3 _).drew);have hXw:w.heap.size<=X:=om;have WP:=λW (hb:Ds.fP W V1.heap.size 9 #[C u,C o])=>Co [u,o] (Z (G ⟨V1.heap.size,0,E⟩) 2 2) W ⟨_,2,D,λ_=>⟨_,0,D,hb.lt,sm,λk hk=>by
  rcases(show k=0∨k=1 by simp at hk;omega) with rfl | rfl
  ·exact hb.cell 0
  ·exact hb.cell 1⟩⟩ sm (λs hs=>by simp at hs;rcases hs with rfl | rfl<;>omega)
 rw[show [u,o].all gD=Q by rw[<-hP];simp] at WP;clear hP us os;obtain⟨VP,hVP,HVP⟩:=nh (V1.alloc (.cells #[C u,C o] 9));have BP:=H (show Ds.fP VP V1.heap.size 9 #[C u,C o] by rw[hVP];exact Ds.fP.new _ _ _);obtain⟨WPP,EP,BPB⟩:=gi (WP VP BP) (show EX VP w.heap.size X #[I J 4,I J t,C u,C o,av,av] #[I J 4,I J t,C u,C o,av,av] by rw[hVP];exact⟨E1.a.alloc _,E1.x.alloc _,E1.ne⟩) (show Below w.heap.size w VP by rw[hVP];exact B1.alloc B1.size _);clear hVP
 go_enter func188,ntmps188
 go_upto_region 17 with(go_at_call 248;refine QS (WT _) ?_)
 rw[<-HV0.out,<-hX];have a2:V0.cell? ⟨w.heap.size,2,E⟩=G (C u):=E0.a.cell 2;have a3:V0.cell? ⟨w.heap.size,3,E⟩=G (C o):=E0.a.cell 3;have x2:V0.cell? ⟨X,2,E⟩=G ax:=E0.x.cell 2;have x3:V0.cell? ⟨X,3,E⟩=G ax:=E0.x.cell 3;have f2:V0.frozen? ⟨X,2,E⟩=z:=E0.x.frozen 2;have f3:V0.frozen? ⟨X,3,E⟩=z:=E0.x.frozen 3;have hXA:X≠w.heap.size:=om;clear hX
 go_region
 rw[<-hV1];clear hV1 hXA;obtain⟨a0,a1,a2,a3,a4,a5⟩:=jF E1.a;obtain⟨x0,x1,x2,x3,x4,x5⟩:=jF E1.x;have f2:V1.frozen? ⟨X,2,E⟩=z:=E1.x.frozen 2;have f4:V1.frozen? ⟨X,4,E⟩=z:=E1.x.frozen 4
 go_upto_region 22 with(go_at_call 247;rw[<-HVP.out];refine WPP.mono ?_;rintro e w2 ⟨rfl,rfl⟩)
 obtain⟨a0,a1,a2,a3,a4,a5⟩:=jF EP.a;obtain⟨x0,x1,x2,x3,x4,x5⟩:=jF EP.x;have f2:VP.frozen? ⟨X,2,E⟩=z:=EP.x.frozen 2;have f4:VP.frozen? ⟨X,4,E⟩=z:=EP.x.frozen 4
 go_wp2_with fail
 go_ret;exact⟨D,BPB⟩
theorem Yw (t n s:Int)(u o:ay)(w:World)(us:u.size<=1000000)(os:o.size<=1000000)(ht:iP t 0 1099511627775=Q)(hP:(gD u&&gD o)=Q):
 Calls prog 188 #[.agg #[I J 5,I J t,C u,C o,av,av]] w λe w'=>e= .returned (.bool Q)/\Below w.heap.size w w':=by
 have uso:=aJ (aJ us os) (show(n,s)=(n,s) from rfl);clear uso;have WT:=λw=>gJ t 0 1099511627775 w;rw[ht] at WT;clear ht;obtain⟨X,hX⟩:=fe (w.heap.size+1);obtain⟨V0,hV0,HV0⟩:=nh ((w.alloc (.cells #[I J 5,I J t,C u,C o,av,av] 115)).alloc (.cells #[I J 5,I J t,ax,ax,av,av] 115));have E0:=H (show EX V0 w.heap.size X #[I J 5,I J t,C u,C o,av,av] #[I J 5,I J t,ax,ax,av,av] by rw[hV0,hX];exact tu _ _ _);clear hV0;obtain⟨V1,hV1⟩:=fe (((V0.setCell ⟨X,2,E⟩ (C u)).setCell ⟨X,3,E⟩ (C o)).drew);have B1:=H (show Below w.heap.size w V1 by rw[hV1];exact nB (gW (gW (by rw[HV0.out];exact(eT _ _).alloc sm _) om _ _) om _ _));have E1:=H (show EX V1 w.heap.size X #[I J 5,I J t,C u,C o,av,av] #[I J 5,I J t,C u,C o,av,av] by rw[hV1];exact((E0.set 2 _).set 3 _).drew);have hXw:w.heap.size<=X:=om;have WP:=λW (hb:Ds.fP W V1.heap.size 9 #[C u,C o])=>Co [u,o] (Z (G ⟨V1.heap.size,0,E⟩) 2 2) W ⟨_,2,D,λ_=>⟨_,0,D,hb.lt,sm,λk hk=>by
  rcases(show k=0∨k=1 by simp at hk;omega) with rfl | rfl
  ·exact hb.cell 0
  ·exact hb.cell 1⟩⟩ sm (λs hs=>by simp at hs;rcases hs with rfl | rfl<;>omega)
 rw[show [u,o].all gD=Q by rw[<-hP];simp] at WP;clear hP us os;obtain⟨VP,hVP,HVP⟩:=nh (V1.alloc (.cells #[C u,C o] 9));have BP:=H (show Ds.fP VP V1.heap.size 9 #[C u,C o] by rw[hVP];exact Ds.fP.new _ _ _);obtain⟨WPP,EP,BPB⟩:=gi (WP VP BP) (show EX VP w.heap.size X #[I J 5,I J t,C u,C o,av,av] #[I J 5,I J t,C u,C o,av,av] by rw[hVP];exact⟨E1.a.alloc _,E1.x.alloc _,E1.ne⟩) (show Below w.heap.size w VP by rw[hVP];exact B1.alloc B1.size _);clear hVP
 go_enter func188,ntmps188
 go_upto_region 17 with(go_at_call 248;refine QS (WT _) ?_)
 rw[<-HV0.out,<-hX];have a2:V0.cell? ⟨w.heap.size,2,E⟩=G (C u):=E0.a.cell 2;have a3:V0.cell? ⟨w.heap.size,3,E⟩=G (C o):=E0.a.cell 3;have x2:V0.cell? ⟨X,2,E⟩=G ax:=E0.x.cell 2;have x3:V0.cell? ⟨X,3,E⟩=G ax:=E0.x.cell 3;have f2:V0.frozen? ⟨X,2,E⟩=z:=E0.x.frozen 2;have f3:V0.frozen? ⟨X,3,E⟩=z:=E0.x.frozen 3;have hXA:X≠w.heap.size:=om;clear hX
 go_region
 rw[<-hV1];clear hV1 hXA;obtain⟨a0,a1,a2,a3,a4,a5⟩:=jF E1.a;obtain⟨x0,x1,x2,x3,x4,x5⟩:=jF E1.x;have f2:V1.frozen? ⟨X,2,E⟩=z:=E1.x.frozen 2;have f4:V1.frozen? ⟨X,4,E⟩=z:=E1.x.frozen 4
 go_upto_region 22 with(go_at_call 247;rw[<-HVP.out];refine WPP.mono ?_;rintro e w2 ⟨rfl,rfl⟩)
 obtain⟨a0,a1,a2,a3,a4,a5⟩:=jF EP.a;obtain⟨x0,x1,x2,x3,x4,x5⟩:=jF EP.x;have f2:VP.frozen? ⟨X,2,E⟩=z:=EP.x.frozen 2;have f4:VP.frozen? ⟨X,4,E⟩=z:=EP.x.frozen 4
 go_wp2_with fail
 go_ret;exact⟨D,BPB⟩
theorem Yv (t n s:Int)(u o:ay)(w:World)(us:u.size<=1000000)(os:o.size<=1000000)(ht:iP t 0 1099511627775=Q)(hF:iP n 0 1099511627775=Q):
 Calls prog 188 #[.agg #[I J 6,I J t,ax,ax,I J n,av]] w λe w'=>e= .returned (.bool Q)/\Below w.heap.size w w':=by
 have uso:=aJ (aJ us os) (show(n,s)=(n,s) from rfl);clear uso;have WT:=λw=>gJ t 0 1099511627775 w;rw[ht] at WT;have WF:=λw=>gJ n 0 1099511627775 w;rw[hF] at WF;clear us os ht hF;obtain⟨X,hX⟩:=fe (w.heap.size+1);obtain⟨V1,hV1⟩:=fe ((w.alloc (.cells #[I J 6,I J t,ax,ax,I J n,av] 115)).alloc (.cells #[I J 6,I J t,ax,ax,I J n,av] 115));obtain⟨B1,E1⟩:=eN (show Below w.heap.size w V1 by rw[hV1];exact(eT _ _).alloc sm _) (show EX V1 w.heap.size X #[I J 6,I J t,ax,ax,I J n,av] #[I J 6,I J t,ax,ax,I J n,av] by rw[hV1,hX];exact tu _ _ _);have hXw:w.heap.size<=X:=om
 go_enter func188,ntmps188
 go_upto_region 20 with(go_at_call 248;refine QS (WT _) ?_)
 rw[<-hV1,<-hX];clear hV1 hX;obtain⟨a0,a1,a2,a3,a4,a5⟩:=jF E1.a;obtain⟨x0,x1,x2,x3,x4,x5⟩:=jF E1.x;have f2:V1.frozen? ⟨X,2,E⟩=z:=E1.x.frozen 2;have f4:V1.frozen? ⟨X,4,E⟩=z:=E1.x.frozen 4
 go_upto_region 22 with(go_at_call 248;refine QS (WF _) ?_)
 go_wp2_with fail
 go_ret;exact⟨D,B1⟩
theorem r0 (t n s:Int)(u o:ay)(w:World):
 Calls prog 188 #[.agg #[av,I J t,C u,C o,I J n,I J s]] w λe w'=>e= .returned (.bool z)/\Below w.heap.size w w':=by
 have WT:=λw=>gJ t 0 1099511627775 w;generalize iP t 0 1099511627775=b at WT
 go_enter func188,ntmps188
 go_wp2_with (go_at_call 248;refine QS (WT _) ?_)
 go_ret;exact⟨D,(eT _ _).alloc sm _⟩
theorem XN {s:ay}(h:s.size=0):s=⟨#[]⟩:=by rw[<-oP s,cP ((eZ s).symm.trans h)];rfl
theorem pE (e:Ev)(w:World)(us:e.user.size<=1000000)(os:e.other.size<=1000000)(hr:fL e=Q∨e.kind=0):
 Calls prog 188 #[e.v] w λe' w'=>e'= .returned (.bool (fL e))/\Below w.heap.size w w':=by
 obtain⟨k,t,u,o,n,s⟩:=e;simp only at us os;unfold Ev.v Ev.cells;rcases hr with hr | hr
 rotate_left
 ·simp only at hr;subst hr;exact r0 t n s u o w
 rw[hr];by_cases hk1:k=1
 ·subst hk1;have ah:iP t 0 1099511627775=Q/\iP s 1 4=Q/\iP n 1 999=Q/\gD u=Q/\o=⟨#[]⟩:=by
   simp[fL] at hr;simp[hr,XN]
  obtain⟨ht,hC,hD,hU,rfl⟩:=ah;exact YA t n s u ⟨#[]⟩ w us os ht hC hD hU
 by_cases hk2:k=2
 ·subst hk2;have ah:iP t 0 1099511627775=Q/\iP s 1 4=Q/\iP n 1 999=Q/\gD u=Q/\o=⟨#[]⟩:=by
   simp[fL] at hr;simp[hr,XN]
  obtain⟨ht,hC,hD,hU,rfl⟩:=ah;exact Yz t n s u ⟨#[]⟩ w us os ht hC hD hU
 by_cases hk3:k=3
 ·subst hk3;have ah:iP t 0 1099511627775=Q/\iP n 1 999=Q/\gD u=Q/\o=⟨#[]⟩/\s=0:=by
   simp[fL] at hr;simp[hr,XN]
  obtain⟨ht,hD,hU,rfl,rfl⟩:=ah;exact Yy t n 0 u ⟨#[]⟩ w us os ht hD hU
 by_cases hk7:k=7
 ·subst hk7;have ah:iP t 0 1099511627775=Q/\gD u=Q/\o=⟨#[]⟩/\n=0/\s=0:=by
   simp[fL] at hr;simp[hr,XN]
  obtain⟨ht,hU,rfl,rfl,rfl⟩:=ah;exact Yu t 0 0 u ⟨#[]⟩ w us os ht hU
 by_cases hk4:k=4
 ·subst hk4;have ah:iP t 0 1099511627775=Q/\(gD u&&gD o)=Q/\n=0/\s=0:=by
   simp[fL] at hr;simp[hr]
  obtain⟨ht,hP,rfl,rfl⟩:=ah;exact Yx t 0 0 u o w us os ht hP
 by_cases hk5:k=5
 ·subst hk5;have ah:iP t 0 1099511627775=Q/\(gD u&&gD o)=Q/\n=0/\s=0:=by
   simp[fL] at hr;simp[hr]
  obtain⟨ht,hP,rfl,rfl⟩:=ah;exact Yw t 0 0 u o w us os ht hP
 by_cases hk6:k=6
 ·subst hk6;have ah:iP t 0 1099511627775=Q/\iP n 0 1099511627775=Q/\u=⟨#[]⟩/\o=⟨#[]⟩/\s=0:=by
   simp[fL] at hr;simp[hr,XN]
  obtain⟨ht,hF,rfl,rfl,rfl⟩:=ah;exact Yv t n 0 ⟨#[]⟩ ⟨#[]⟩ w us os ht hF
 simp[fL,hk1,hk2,hk3,hk4,hk5,hk6,hk7] at hr
theorem KK:(prog.info? 9).map (λi=>(i.zero,i.size,i.bytes))=G (G ax,1,16):=kr
theorem MK:prog.underlying 48=G (.slice 9):=kr
theorem addr_add (g o j:Nat):(⟨g,o,E⟩:Addr).add j=⟨g,o+j,E⟩:=by unfold Addr.add;split<;>simp_all
theorem Da{base:Nat}{v}{F:List ay}(h:w.ownsRow base 9 1 v n (F.map Value.string))(hn:n=F.length):eO w v F:=by
 subst hn;obtain⟨_,h2⟩:=id h;rcases h2 with⟨rfl,hz⟩ | ⟨g,cap,cur,rfl,hb,hg,hcap,_⟩
 ·have:F=[]:=cP (by simpa using hz);subst this;exact⟨E,0,D,λh=>absurd D h⟩
 ·refine⟨_,cap,D,λ_=>⟨g,0,D,(aa2.1 hg).1,hcap,λk hk=>?_⟩⟩;have:=h.cells (g:=g) D k (C F[k]) (by rw[el,aW hk];rfl);rw[addr_add] at this;exact this
theorem tC {o:Oper}{a:Act}{K:Act->World->Prop}{ar:Exit->Act->World->Prop}(w:World)
 (ho:o.op= .call {callee:=.builtin .append,args:=#[.tmp 12,.tmp 14],argTypes:=#[48,48]})
 (b m cap2 g2 off2:Nat) (dt:ay) (F:List ay) (hs:a.eval (.tmp 12)= Z (G ⟨b,0,E⟩) 1 1) (hx:a.eval (.tmp 14)= Z (G ⟨g2,off2,E⟩) m cap2)
 (hb:fP w b 9 #[C dt]) (hm:m=F.length) (hl:F.length<=1000) (hc:∀ k (h:k<F.length),w.cell? ⟨g2,off2+k,E⟩=G (C F[k]))
 (h:∀ v' w',eO w' v' (dt::F)->w.grownBy w' (G b)->K (a.put o.dst v') w'):o.wp prog a w K ar:=by
 obtain⟨i0,hi,hz0,hz1,hz2⟩:=info_parts KK;have O:w.ownsRow 0 9 1 (Z (G ⟨b,0,E⟩) 1 1) 1 [C dt]:=⟨D,.inr ⟨b,1,_,D,aD _,hb,aB _,dc,D,D⟩⟩;refine wp_append_own _ (.tmp 12) (.tmp 14) 48 ho 0 9 i0 ax 1 16 MK hi hz0 hz1 hz2 D om _ 1 [C dt] hs O ⟨g2,off2,E⟩ m cap2 (F.map Value.string) hx (by rw[bg,hm];omega) (λj u hj=>?_) (λu hu=>by simp at hu;obtain⟨_,_,rfl⟩:=hu;rfl) eQ om (aD _) (λv' w' ho' hg' _=>?_)
 ·rw[el] at hj;cases hF:F[j]? with
  | none=>rw[hF] at hj;cases hj
  | some x=>
   rw[hF] at hj;obtain⟨hlt,rfl⟩:=ab4.1 hF;rw[addr_add,hc j hlt];exact hj
 ·exact h v' w' (Da (n:=1+m) (F:=dt::F) ho' eC) hg'
end Tp
section
open Go.RowKit CrcM FrM
open Ds (eU fP)
abbrev Fr:=UInt8×ay
def YW (s:ay)(a:Nat):Fr:=(Rh (s.extract a s.size).data.toList,yY (s.extract a s.size))
def Qj (s:ay)(a:Nat):Nat:=vQ (s.extract a s.size).data.toList
def Ek (s:ay)(a:Nat):Nat:=Ku (s.extract a s.size).data.toList
def st (s:ay):Nat->Nat×List Fr
 | 0=>(0,[])
 | k+1=>((st s k).1+Ek s (st s k).1,(st s k).2++[YW s (st s k).1])
structure yJ (s:ay)(k A:Nat)(l:List Fr):Prop where
 at_:A=(st s k).1
 list:l=(st s k).2
 all:∀ j,j<k->Qj s (st s j).1=0
 le:A<=s.size
 count:l.length*14<=A
theorem Tk (t)(h:vQ t=0):14<=Ku t/\Ku t<=t.length:=by
 unfold Ku;rw[aA h];refine⟨om,?_⟩;unfold vQ at h
 split at h
 ·omega
 ·split at h
  ·omega
  ·split at h
   ·omega
   ·rename_i h1 _ h3;have a:=(wj head 0 6 t om).1;have b:=(wj (body (ix t)) 6 (ix t+8) (t.drop 6) om).1;rw[bm] at b;omega
theorem GP (s:ay)(a:Nat)(ha:a<=s.size)(h:Qj s a=0):14<=Ek s a/\a+Ek s a<=s.size:=by
 have:=Tk _ h;rw[<-eZ,extract_size,Nat.min_self] at this;unfold Ek;omega
theorem yJ.zero (s):yJ s 0 0 []:=⟨D,D,λ_ h=>absurd h (Nat.not_lt_zero _),aD _,aD _⟩
theorem yJ.next {s}{l}(h:yJ s k A l)(he:Qj s A=0):yJ s (k+1) (A+Ek s A) (l++[YW s A]):=by
 obtain⟨rfl,rfl,h3,h4,h5⟩:=h;have:=GP s _ h4 he;refine⟨D,D,λj hj=>?_,om,by rw[aU,ed];omega⟩;rcases(show j<k∨j=k by omega) with h | rfl
 ·exact h3 j h
 ·exact he
theorem lO{e}{v}(h:w.ownsRow B e k v n xs)(hb:Below w.heap.size w w'):w'.ownsRow B e k v n xs:=by
 refine⟨h.1,?_⟩;rcases h.2 with h2 | ⟨g,cap,cur,h1,h2,h3,h4⟩
 ·exact aG h2
 ·refine aI ⟨g,cap,cur,h1,h2,?_,h4⟩;have hlt:g<w.heap.size:=by
   by_cases hlt:g<w.heap.size
   ·exact hlt
   ·rw[bM om] at h3;cases h3
  rw[hb.block _ hlt];exact h3
theorem wz (W:World)(T:TypeId)(a b:Value)(g:Nat)(hg:g=W.heap.size):∀ (j:Nat) (u:Value),[a,b][j]?=G u->(W.alloc (.cells #[a,b] T)).cell? ((⟨g,0,E⟩:Addr).add j)=G u:=by
 subst hg;intro j u h
 match j with
 | 0=>simp at h;subst h;simp[Addr.add]
 | 1=>simp at h;subst h;simp[Addr.add]
 | j+2=>simp at h
theorem Ck{v}{o o2:Obj}(h:Below w.heap.size w wr)(h1:Below wr.heap.size wr w1)(ho:wr.ownsRow w.heap.size T size v n xs)
 (hg:((w1.alloc o).alloc o2).grownBy w' v.ownBlock):Below w.heap.size w w':=by
 have hs:=h.size;have hs1:=h1.size;refine Below.grown (((kz h h1).alloc om _).alloc eC _) hg eC (λk hk=>(ho.lt k hk).1)
theorem AF (k:UInt8)(b):(whole k b).length=14+b.length:=by simp[whole,inner,gP];omega
theorem N9 {k:UInt8}{b}(h:DF k b=0):isKind k=Q/\b.length<=2000/\b.all iq=Q:=by
 unfold DF at h
 split at h
 ·omega
 ·split at h
  ·omega
  ·split at h
   ·omega
   ·rename_i h1 h2 h3;exact⟨gM,om,by simpa using h3⟩
theorem Wq {k:UInt8}{b:List UInt8}(h1:isKind k=Q)(h2:b.length<=2000)(h3:b.all iq=Q):DF k b=0:=by
 unfold DF;rw[az (by rw[h1];decide),az om,az (by rw[h3];decide)]
theorem Jt (k n:Nat):(hex k n).all ig=Q:=by rw[bJ];exact B7 k n
theorem Nv (p:UInt8->Bool)(q:Nat->UInt8->Bool)(k:Nat)(a t:List UInt8)(h:∀ j c,j<a.length->q (k+j) c=p c)(ha:a.all p=Q):sc q k a.length (a++t)=0:=by
 rw[R3 _ _ _ _ _ (aB _),Nu p q k a.length a h,aT,ha,az dc,az om]
theorem oE (k:UInt8)(b t:List UInt8):whole k b++t=254::k::(hex 4 b.length++(b++(hex 8 (tA (inner k b))++t))):=by simp[whole,inner,List.append_assoc]
theorem FV {k:UInt8}{b}(t:List UInt8)(h:isKind k=Q):sc head 0 6 (whole k b++t)=0:=by
 rw[oE];show(if head 0 254=Q then(if head 1 k=Q then sc head 2 4 (hex 4 b.length++_) else 44) else 44)=0;rw[aA dc,aA (by unfold head;rw[az om,aA D];exact h)];have:=Nv ig head 2 (hex 4 b.length) (b++(hex 8 (tA (inner k b))++t)) (λj c _=>by unfold head;rw[az om,az om]) (Jt _ _);rw[gP] at this;exact this
theorem FU (k:UInt8)(b t:List UInt8)(h:b.length<=2000):ix (whole k b++t)=b.length:=by
 unfold ix;rw[oE];show unhex ((hex 4 b.length++_).take 4)=_;have e:(hex 4 b.length++(b++(hex 8 (tA (inner k b))++t))).take 4=hex 4 b.length:=by
  have:=List.take_left (l₁:=hex 4 b.length) (l₂:=b++(hex 8 (tA (inner k b))++t))
  rwa[gP] at this
 rw[e];exact zj 4 _ om
theorem Af (n:Nat)(x:List UInt8):(hex 4 n++x).drop 4=x:=by
 have:=List.drop_left (l₁:=hex 4 n) (l₂:=x)
 rwa[gP] at this
theorem vz (k:UInt8)(b t:List UInt8):(whole k b++t).drop 6=b++(hex 8 (tA (inner k b))++t):=by
 rw[oE];exact Af b.length _
theorem FW {k:UInt8}{b:List UInt8}(t:List UInt8)(h:b.all iq=Q):sc (body b.length) 6 (b.length+8) ((whole k b++t).drop 6)=0:=by
 rw[vz,AX];rw[aA (Nv iq (body b.length) 6 b _ (λj c hj=>by unfold body;rw[aA om]) h),List.drop_left];have:=Nv ig (body b.length) (6+b.length) (hex 8 (tA (inner k b))) t (λj c _=>by unfold body;rw[az om]) (Jt _ _);rw[gP] at this;exact this
theorem FQ (k:UInt8)(b t:List UInt8):(whole k b++t).take (6+b.length)=254::inner k b:=by
 rw[show whole k b++t=(254::inner k b)++(hex 8 (tA (inner k b))++t) by simp[whole,List.append_assoc]];have:=List.take_left (l₁:=(254::inner k b)) (l₂:=hex 8 (tA (inner k b))++t);rw[show((254:UInt8)::inner k b).length=6+b.length by simp[inner,gP];omega] at this;exact this
theorem YB {k:UInt8}{b}(t:List UInt8)(h:DF k b=0):
 vQ (whole k b++t)=0/\Rh (whole k b++t)=k/\XP (whole k b++t)=b/\Ku (whole k b++t)=14+b.length:=by
 obtain⟨h1,h2,h3⟩:=N9 h;have hl:=FU k b t h2;have ht:=FQ k b t;have he:vQ (whole k b++t)=0:=by
  refine Oq _ (FV t h1) om (by rw[hl];exact FW t h3) ?_;rw[hl,ht,show(6:Nat)+b.length=6+b.length from rfl,<-List.drop_drop,vz,List.drop_left];show _=hex 8 (tA (inner k b));have:=List.take_left (l₁:=hex 8 (tA (inner k b))) (l₂:=t)
  rwa[gP] at this
 refine⟨he,?_,?_,?_⟩
 ·unfold Rh;rw[aA he,oE];rfl
 ·unfold XP;rw[aA he,hl,ht];exact Af b.length b
 ·unfold Ku;rw[aA he,hl]
theorem xS {k:UInt8}{b:ay}(h:DF k b.data.toList=0):(Bj k b).data.toList=whole k b.data.toList:=by unfold Bj qj;rw[aA h,kN]
theorem zG {k:UInt8}{b:ay}(h:DF k b.data.toList=0):(Bj k b).size=14+b.size:=by rw[eZ,xS h,AF,eZ]
