/- Lemmas for AfterglowSecret: what functions of the program return; no condition. -/
import Derived.Maps.OwnSet
import Derived.Sort.KeysCollected
import Derived.Test.YtkpdknkidnfgiaaGreatDoorProg
import Derived.WalkKit
import Derived.WalkSpells
import Derived.WalkLawsBesides
import Derived.Deep.Draws
import Derived.StillTailTactics
import Derived.Deep.QuietTactic
import Derived.BigQuiet
import Derived.Test.YtkpdknkidnfgiaaGreatDoorJA
set_option maxHeartbeats 0
set_option maxRecDepth 100000
set_option linter.unusedVariables false
open Go.Value renaming int->I,string->C,slice->Z
open Go.IntKind renaming i64->J,u8->U
open Option renaming none->E,some->G
open Bool renaming true->Q,false->z
open Go.Lib renaming hid->H
open Go.Proofs.Tryz
namespace Go.Proofs.YtkpdknkidnfgiaaGreatDoor
theorem rq{p:Prop}(h:p:=by
 have HB:=H hB
 go_enter func169,ntmps169
 go_wp2_with (at_lookup;refine ql _ D _ _ D b L n D ho D hn ?_;rw[HB.out])
 go_ret;exact⟨by rw[HT.out];rfl,(aa4 _ _).alloc (aB _) _⟩):p:=h
theorem abD{p:Prop}(h:p:=by
 rw[dC];exact⟨s[k],by show s.data[k]∈_;rw[<-Array.getElem_toList];exact aV _,by rw[hc];decide⟩):p:=h
theorem eB{p:Prop}(h:p:=by go_num):p:=h
variable {a:ByteArray} {ld:Int} {B b b' g i k m:Nat} {t:TypeId} {w w':World}
namespace Ds
namespace DkM
open Go Go.Maps
structure Fl where
 n:ay
 s:ay
 l:ay
theorem lv {b:ay}(h:a.data.toList=b.data.toList):a=b:=by
 cases a;cases b;simp at h;rw[h]
theorem tJ (s:ay):s.size=s.data.toList.length:=by show s.data.size=_;simp
theorem yH (a b:ay):(a++b).data.toList=a.data.toList++b.data.toList:=by simp[ByteArray.data_append]
theorem E8 (x:ay)(a b:Nat):(x.extract a b).data.toList=(x.data.toList.take b).drop a:=by
 rw[ByteArray.data_extract];simp[List.drop_take]
theorem mc (a b:ay):(a++b).size=a.size+b.size:=ByteArray.size_append
theorem Qc (x:ay)(a b:Nat):(x.extract a b).size=min b x.size - a:=dR
def Lv (a b:ay):Bool:=a.data.toList==b.data.toList
theorem pR {b}:Lv a b=Q↔a=b:=by
 unfold Lv;rw[dq];exact⟨lv,λh=>by rw[h]⟩
theorem Fb (a):Lv a a=Q:=pR.2 rfl
theorem vp {b}:Lv a b=z↔a≠b:=by
 rw[<-cS,pR]
def bf (a b:ay):Bool:=bytesBefore a.data.toList b.data.toList
theorem gj (a):bf a a=z:=WideAt.bytes_irrefl _
theorem ij {b c}(h:bf a b=Q)(h':bf b c=Q):bf a c=Q:=WideShapes.bytes_trans _ _ _ h h'
theorem gQ {b:ay}(h:a≠b):bf a b=Q∨bf b a=Q:=WideAt.bytes_total _ _ (λe=>h (lv e))
theorem mY {b}(h:bf a b=Q):a≠b:=λe=>by rw[e,gj] at h;cases h
theorem iZ {b}(h:bf a b=Q):bf b a=z:=by
 cases hb:bf b a
 ·rfl
 ·have:=ij h hb;rw[gj] at this;cases this
def gG (L:List Fl)(n:ay):Option Fl:=L.find? λf=>Lv f.n n
def wo (L:List Fl)(n:ay):List Fl:=L.filter λf=>!Lv f.n n
def pd (f:Fl):List Fl->List Fl
 | []=>[f]
 | g::r=>if bf f.n g.n then f::g::r else g::pd f r
def ja (L:List Fl)(f:Fl):List Fl:=pd f (wo L f.n)
def mV:List Fl->Nat
 | []=>0
 | f::r=>f.s.size+f.l.size+mV r
def jP (L:List Fl):Prop:=L.Pairwise λf g=>bf f.n g.n=Q
def mL (f:Fl):Value:=.agg #[.string (f.s++f.l),I J (f.s.size:Nat)]
def Ey (v:Value):Option (DataW Value×List MemPlace):=G (.held v,[])
def pr (f:Fl):Lit×DataW Value:=(.string f.n.data.toList,.held (mL f))
def CZ (L:List Fl):DataW Value:=.map (L.map pr)
theorem L4 (L)(n:ay)(au:DataW Value):(CZ L).atKey (.string n.data.toList) au=match gG L n with | some f=>.held (mL f) | none=>au:=by
 unfold CZ DataW.atKey gG;simp only[List.find?_map];have e:((λp:Lit×DataW Value=>p.1.sameKey (.string n.data.toList))∘pr)=λf=>Lv f.n n:=rfl;rw[e];cases L.find? (λf=>Lv f.n n)<;>rfl
theorem TU (L)(n:ay):Maps.has (CZ L) (.string n.data.toList)=(gG L n).isSome:=by
 show(L.map pr).any _=_;rw[List.any_map];have e:((λp:Lit×DataW Value=>p.1.sameKey (.string n.data.toList))∘pr)=λf=>Lv f.n n:=rfl;rw[e];unfold gG;rw[List.isSome_find?]
theorem My (L:List Fl)(n:ay):(L.map pr).filter (λp=>!p.1.sameKey (.string n.data.toList))=(wo L n).map pr:=by
 rw[List.filter_map];rfl
theorem I4 (f):∀ L:List Fl,DataW.insert (pr f) (L.map pr)=(pd f L).map pr
 | []=>rfl
 | g::r=>by
   have e:DataW.insert (pr f) ((g::r).map pr)=if bf f.n g.n then pr f::pr g::r.map pr else pr g::DataW.insert (pr f) (r.map pr):=rfl;have e2:pd f (g::r)=if bf f.n g.n then f::g::r else g::pd f r:=rfl;rw[e,e2]
   split
   ·rfl
   ·rw[I4 f r];rfl
theorem SJ (L)(f:Fl):(CZ L).put (.string f.n.data.toList) (.held (mL f))=CZ (ja L f):=by
 show DataW.map (DataW.insert (pr f) ((L.map pr).filter _))=_;rw[My,I4];rfl
theorem Ug (L)(n:ay):(CZ L).del (.string n.data.toList)=CZ (wo L n):=by
 show DataW.map ((L.map pr).filter _)=_;rw[My];rfl
theorem xz (L):Maps.size (CZ L)=L.length:=by show(L.map pr).length=_;simp
theorem Pb (L):strKeys (CZ L)=L.map (λf=>f.n.data.toList):=by
 show(L.map pr).map _=_;rw[dK];rfl
theorem Vk:∀ {a b:List UInt8},bytesBefore a b=Q->a<b
 | [],[],h=>by cases h
 | [],_::_,_=>List.Lex.nil
 | _::_,[],h=>by cases h
 | x::a,y::b,h=>by
   have e:bytesBefore (x::a) (y::b)=(decide (x<y)||(x==y&&bytesBefore a b)):=rfl;rw[e] at h;simp only[bV,aM,aN,dq] at h;rcases h with h | ⟨rfl,h⟩
   ·exact List.Lex.rel h
   ·exact List.Lex.cons (Vk h)
theorem Dd {L}(h:jP L){ss:List (List UInt8)}(hp:ss.Perm (L.map λf=>f.n.data.toList)):ss.mergeSort leB=L.map λf=>f.n.data.toList:=by
 rw[mergeSort_of_perm hp];refine List.mergeSort_of_pairwise ?_;rw[de];refine h.imp λ{f g} hfg=>?_;simp only[leB,aN];exact List.le_of_lt (Vk hfg)
theorem l7 {L}{n}{f}(h:gG L n=G f):f∈L/\f.n=n:=by
 unfold gG at h;exact⟨List.mem_of_find?_eq_some h,pR.1 (List.find?_some (p:=λf:Fl=>Lv f.n n) h)⟩
theorem O5 {L}{n}(h:gG L n=E):∀ f∈L,f.n≠n:=by
 unfold gG at h;intro f hf e;have:=List.find?_eq_none.1 h f hf;rw[pR.2 e] at this;exact this rfl
theorem wD {L}(h:jP L){f:Fl}(hf:f∈L):gG L f.n=G f:=by
 induction L with
 | nil=>cases hf
 | cons g r ih=>
  obtain⟨h1,h2⟩:=aa3.1 h;unfold gG;rcases aE.1 hf with rfl | hr
  ·rw[List.find?_cons_of_pos (p:=λg:Fl=>Lv g.n f.n) (Fb _)]
  ·rw[List.find?_cons_of_neg (by rw[vp.2 (mY (h1 f hr))];decide)];exact ih h2 hr
theorem Bo {L}{n}{f:Fl}:f∈wo L n↔f∈L/\f.n≠n:=by
 unfold wo;rw[aa9,ei,vp]
theorem Bp {f g:Fl}:∀ {L:List Fl},g∈pd f L↔g=f∨g∈L
 | []=>by simp[pd]
 | a::r=>by
   unfold pd
   split
   ·simp
   ·simp only[aE,Bp (L:=r)];constructor
    ·rintro(h | h | h)
     ·exact aI (aG h)
     ·exact aG h
     ·exact aI (aI h)
    ·rintro(h | h | h)
     ·exact aI (aG h)
     ·exact aG h
     ·exact aI (aI h)
theorem oL {L}{f g:Fl}:g∈ja L f↔g=f∨(g∈L/\g.n≠f.n):=by
 unfold ja;rw[Bp,Bo]
theorem jP.wo {L}(h:jP L)(n):jP (wo L n):=List.Pairwise.filter _ h
theorem jP.ins {f:Fl}:∀ {L:List Fl},jP L->(∀ g∈L,g.n≠f.n)->jP (pd f L)
 | [],_,_=>by simp[pd,jP]
 | a::r,h,hn=>by
   obtain⟨h1,h2⟩:=aa3.1 h;unfold pd
   split
   ·rename_i hb;refine aa3.2 ⟨λg hg=>?_,h⟩;rcases aE.1 hg with rfl | hr
    ·exact hb
    ·exact ij hb (h1 g hr)
   ·rename_i hb;have hab:bf a.n f.n=Q:=by
     rcases gQ (hn a sm) with h' | h'
     ·exact h'
     ·exact absurd h' hb
    refine aa3.2 ⟨λg hg=>?_,jP.ins h2 (λg hg=>hn g (by simp[hg]))⟩;rcases Bp.1 hg with rfl | hr
    ·exact hab
    ·exact h1 g hr
theorem jP.put {L}(h:jP L)(f):jP (ja L f):=jP.ins (h.wo f.n) (λ_ hg=>(Bo.1 hg).2)
theorem Dn:∀ {L M:List Fl},jP L->jP M->(∀ f,f∈L↔f∈M)->L=M
 | [],[],_,_,_=>rfl
 | [],g::r,_,_,h=>by have:=(h g).2 sm;cases this
 | f::r,[],_,_,h=>by have:=(h f).1 sm;cases this
 | f::r,g::q,hL,hM,h=>by
   obtain⟨a1,a2⟩:=aa3.1 hL;obtain⟨b1,b2⟩:=aa3.1 hM;have e:f=g:=by
    rcases aE.1 ((h f).1 sm) with rfl | hf
    ·rfl
    ·rcases aE.1 ((h g).2 sm) with hg | hg
     ·exact hg.symm
     ·have x:=ij (a1 g hg) (b1 f hf);rw[gj] at x;cases x
   subst e
   congr 1
   refine Dn a2 b2 λx=>?_;constructor
   ·intro hx;rcases aE.1 ((h x).1 aaA) with rfl | hx'
    ·have:=a1 x hx;rw[gj] at this;cases this
    ·exact hx'
   ·intro hx;rcases aE.1 ((h x).2 aaA) with rfl | hx'
    ·have:=b1 x hx;rw[gj] at this;cases this
    ·exact hx'
theorem kK {L}(h:jP L)(f):gG (ja L f) f.n=G f:=wD (h.put f) (oL.2 (aG D))
theorem Tw {L}(h:jP L){n}{f}:gG L n=G f↔f∈L/\f.n=n:=
 ⟨l7,λ⟨h1,h2⟩=>by subst h2;exact wD h h1⟩
theorem vJ {L}{n}:gG L n=E↔∀ f∈L,f.n≠n:=
 ⟨O5,λh=>by
  unfold gG;rw[List.find?_eq_none];intro f hf;rw[vp.2 (h f hf)];decide⟩
theorem jW {L}(h:jP L)(f:Fl){n:ay}(hn:n≠f.n):gG (ja L f) n=gG L n:=by
 cases hl:gG L n with
 | none=>
  rw[vJ] at hl ⊢;intro g hg;rcases oL.1 hg with rfl | ⟨hg,_⟩
  ·exact λe=>hn e.symm
  ·exact hl g hg
 | some g=>
  obtain⟨h1,h2⟩:=l7 hl;rw[Tw (h.put f)];exact⟨oL.2 (aI ⟨h1,by rw[h2];exact hn⟩),h2⟩
def Ri:Option Fl->Nat
 | some f=>f.s.size+f.l.size
 | none=>0
theorem FY {L}(h:jP L)(n):mV (wo L n)+Ri (gG L n)=mV L:=by
 induction L with
 | nil=>rfl
 | cons g r ih=>
  obtain⟨h1,h2⟩:=aa3.1 h;have ih:=ih h2;by_cases e:g.n=n
  ·subst e;have hr:=vJ.2 λf hf he=>mY (h1 f hf) he.symm;rw[hr] at ih;have hw:wo (g::r) g.n=wo r g.n:=by
    unfold wo;rw[bQ (by rw[Fb];decide)]
   rw[wD h sm,hw];simp only[mV,Ri];simp only[Ri] at ih;omega
  ·have hw:wo (g::r) n=g::wo r n:=by
    unfold wo;rw[bS (by rw[vp.2 e];rfl)]
   have hl:gG (g::r) n=gG r n:=by
    unfold gG;rw[List.find?_cons_of_neg (by rw[vp.2 e];decide)]
   rw[hw,hl];simp only[mV];omega
theorem Ht (f):∀ L:List Fl,mV (pd f L)=f.s.size+f.l.size+mV L
 | []=>rfl
 | g::r=>by
   unfold pd
   split
   ·rfl
   ·simp only[mV,Ht f r];omega
theorem vY {L}(h:jP L)(f):mV (ja L f)+Ri (gG L f.n)=mV L+f.s.size+f.l.size:=by
 unfold ja;rw[Ht];have:=FY h f.n;omega
theorem I0 (f):∀ L:List Fl,(pd f L).length=L.length+1
 | []=>rfl
 | g::r=>by
   unfold pd
   split
   ·rfl
   ·simp[I0 f r]
theorem GO (L)(n):(wo L n).length<=L.length:=bp _ _
theorem wE (L)(f):(ja L f).length<=L.length+1:=by
 unfold ja;rw[I0];have:=GO L f.n;omega
theorem xe {L:List Fl}{f:Fl}(h:f∈L):f.s.size+f.l.size<=mV L:=by
 induction L with
 | nil=>cases h
 | cons g r ih=>
  rcases aE.1 h with rfl | hr
  ·simp only[mV];omega
  ·have:=ih hr;simp only[mV];omega
theorem Wk {A B:List Fl}{f g:Fl}(h:jP (A++f::B))(hn:g.n=f.n):ja (A++f::B) g=A++g::B:=by
 have hR:jP (A++g::B):=by
  unfold jP at h ⊢;rw[aa8,aa3] at h ⊢;obtain⟨h1,⟨h2,h3⟩,h4⟩:=h;refine⟨h1,⟨λx hx=>by rw[hn];exact h2 x hx,h3⟩,λa ha b hb=>?_⟩;rcases aE.1 hb with rfl | hb
  ·rw[hn];exact h4 a ha f sm
  ·exact h4 a ha b (by simp[hb])
 refine Dn (h.put g) hR λx=>?_;rw[oL];simp only[bG,aE];unfold jP at h;rw[aa8,aa3] at h;obtain⟨_,⟨h2,_⟩,h4⟩:=h;constructor
 ·rintro(rfl | ⟨h' | rfl | h',hne⟩)
  ·exact aI (aG D)
  ·exact aG h'
  ·exact absurd hn.symm hne
  ·exact aI (aI h')
 ·rintro(h' | rfl | h')
  ·exact aI ⟨aG h',by rw[hn];exact mY (h4 x h' f sm)⟩
  ·exact aG D
  ·exact aI ⟨aI (aI h'),by rw[hn];exact λe=>mY (h2 x h') e.symm⟩
end DkM
end Ds
namespace Ds
open Go.RowKit Go.Maps DkM
def fP (w:World)(g:Nat)(t:TypeId)(cs:Array Value):Prop:=w.heap[g]?=G (.cells cs t (0,0))
section
variable {w w':World}{g:Nat}{t:TypeId}{cs:Array Value}
theorem fP.lt (h:fP w g t cs):g<w.heap.size:=by
 rcases bZ g w.heap.size with hlt | hge
 ·exact hlt
 ·unfold fP at h;rw[bM hge] at h;cases h
theorem fP.cell (h:fP w g t cs)(i:Nat):w.cell? ⟨g,i,E⟩=cs[i]?:=ab1 w g i cs t (0,0) h
theorem fP.frozen (h:fP w g t cs)(i:Nat):w.frozen? ⟨g,i,E⟩=z:=by
 unfold fP at h;simp[World.frozen?,h]
theorem fP.new (w:World)(t:TypeId)(cs:Array Value):fP (w.alloc (.cells cs t)) w.heap.size t cs:=heap_alloc_new w _
theorem fP.alloc (h:fP w g t cs)(o):fP (w.alloc o) g t cs:=(Below.heap_alloc w o g h.lt).trans h
theorem fP.mu (h:fP w g t cs)(i:Nat)(u):fP (w.setCell ⟨g,i,E⟩ u) g t (cs.setIfInBounds i u):=by
 unfold fP at h ⊢;simp[World.setCell,Array.getElem?_modify,h]
theorem fP.fw (h:fP w g t cs){p:Addr}(hp:g≠p.block)(u):fP (w.setCell p u) g t cs:=(aa0 w p u g hp).trans h
end
structure Dk where
 L:List Fl
 ld:Int
 jL:Int
 used:Int
 ops:Int
 reads:Int
 down:Bool
def dkC (b:Nat)(S:Dk):Array Value:=#[.map (G b),I J S.ld,I J S.jL,I J S.used,I J S.ops,I J S.reads,.bool S.down]
def Own (w:World)(b:Nat)(L:List Fl):Prop:=w.ownsMap prog 9 Ey b L.length (CZ L)
structure eF (w:World)(p b:Nat)(S:Dk):Prop where
 fo:fP w p 109 (dkC b S)
 own:Own w b S.L
structure Kp (p b:Nat)(w w':World):Prop where
 os:w'.os=w.os
 tape:w'.tape=w.tape
 output:w'.output=w.output
 size:w.heap.size<=w'.heap.size
 block:∀ k,k<w.heap.size->k≠p->k≠b->w'.heap[k]?=w.heap[k]?
section
variable {p b:Nat}{w w' w'':World}
theorem Kp.refl (p b:Nat)(w):Kp p b w w:=⟨D,D,D,aB _,λ_ _ _ _=>rfl⟩
theorem Kp.trans (h:Kp p b w w')(k:Kp p b w' w''):Kp p b w w'':=
 ⟨k.os.trans h.os,k.tape.trans h.tape,k.output.trans h.output,aH h.size k.size,λi hi h1 h2=>(k.block i (bK hi h.size) h1 h2).trans (h.block i hi h1 h2)⟩
theorem Kp.jR (h:Below w.heap.size w w'):Kp p b w w':=⟨h.os,h.tape,h.output,h.size,λk hk _ _=>h.block k hk⟩
theorem Kp.below(h:Kp p b w w')(hp:B<=p)(hb:B<=b)(hB:B<=w.heap.size):Below B w w':=
 ⟨h.os,h.tape,h.output,h.size,λk hk=>h.block k om om om⟩
theorem Kp.drew (w):Kp p b w w.drew:=⟨D,D,D,aB _,λ_ _ _ _=>rfl⟩
theorem Kp.drewN (w)(n:Nat):Kp p b w (w.drewN n):=⟨D,D,D,aB _,λ_ _ _ _=>rfl⟩
theorem Kp.alloc (w)(o):Kp p b w (w.alloc o):=.jR ((aa4 _ _).alloc (aB _) _)
theorem Kp.tP (w)(i:Nat)(v):Kp p b w (w.setCell ⟨p,i,E⟩ v):=
 ⟨D,D,D,by simp[World.setCell],λ_ _ h _=>aa0 _ _ _ _ h⟩
theorem Kp.jH (h:w.mapTurned w' b):Kp p b w w':=by
 have g:=h.grown;exact⟨g.os,g.tape,g.output,g.size,λk hk _ h2=>g.block k hk (λe=>h2 (by injection e))⟩
theorem Kp.fo{cs}(h:Kp p b w w')(hb:fP w g t cs)(h1:g≠p)(h2:g≠b):fP w' g t cs:=(h.block g hb.lt h1 h2).trans hb
theorem Kp.cell (h:Kp p b w w'){a:Addr}(ha:a.block<w.heap.size)(h1:a.block≠p)(h2:a.block≠b):w'.cell? a=w.cell? a:=ab2 (w:=w) (h.block _ ha h1 h2)
end
section
variable {w w':World}{p b:Nat}{S:Dk}{L:List Fl}
theorem Own.lt (h:Own w b L):b<w.heap.size:=World.ownsMap.lt h
theorem Own.kept {row}(h:Own w b L)(hg:w.grownBy w' row)(hne:G b≠row):Own w' b L:=World.ownsMap.kept h hg hne
theorem Own.alloc (h:Own w b L)(o):Own (w.alloc o) b L:=World.ownsMap.alloc h o
theorem Own.block (h:Own w b L)(hh:w'.heap[b]?=w.heap[b]?):Own w' b L:=by
 obtain⟨es,clock,hb,F,hs,hD⟩:=h;exact⟨es,clock,hh.trans hb,F,hs,hD⟩
theorem Own.fw (h:Own w b L){a:Addr}(ha:b≠a.block)(u):Own (w.setCell a u) b L:=World.ownsMap.setCell h ha u
theorem Own.below(h:Own w b L)(hb:Below B w w')(hB:b<B):Own w' b L:=h.block (hb.block b hB)
theorem eF.ne (h:eF w p b S):p≠b:=by
 rintro rfl;obtain⟨es,clock,hb,_⟩:=h.own;have:=h.fo;unfold fP at this;rw[hb] at this;cases this
theorem eF.below(h:eF w p b S)(hb:Below B w w')(hp:p<B)(hB:b<B):eF w' p b S:=⟨(hb.block p hp).trans h.fo,h.own.below hb hB⟩
theorem eF.fp (h:eF w p b S)(hb:Below w.heap.size w w'):eF w' p b S:=h.below hb h.fo.lt h.own.lt
theorem eF.alloc (h:eF w p b S)(o):eF (w.alloc o) p b S:=⟨h.fo.alloc o,h.own.alloc o⟩
theorem eF.drew (h:eF w p b S):eF w.drew p b S:=⟨h.fo,h.own⟩
theorem eF.drewN (h:eF w p b S)(n:Nat):eF (w.drewN n) p b S:=⟨h.fo,h.own⟩
theorem eF.kp {p':Nat}(h:eF w p b S)(k:Kp p' b' w w')(h1:p≠p')(h2:p≠b')(h3:b≠p')(h4:b≠b'):eF w' p b S:=
 ⟨k.fo h.fo h1 h2,h.own.block (k.block b h.own.lt h3 h4)⟩
theorem eF.cells (h:eF w p b S):p<w.heap.size/\w.cell? ⟨p,0,E⟩=G (.map (G b))/\w.cell? ⟨p,1,E⟩=G (I J S.ld)/\w.cell? ⟨p,2,E⟩=G (I J S.jL)/\
 w.cell? ⟨p,3,E⟩=G (I J S.used)/\w.cell? ⟨p,4,E⟩=G (I J S.ops)/\w.cell? ⟨p,5,E⟩=G (I J S.reads)/\w.cell? ⟨p,6,E⟩=G (.bool S.down):=
 ⟨h.fo.lt,h.fo.cell 0,h.fo.cell 1,h.fo.cell 2,h.fo.cell 3,h.fo.cell 4,h.fo.cell 5,h.fo.cell 6⟩
end
section
variable {w w':World}{p b:Nat}{S:Dk}
theorem eF.Wb (h:eF w p b S)(x:Int):eF (w.setCell ⟨p,2,E⟩ (I J x)) p b {S with jL:=x}:=⟨h.fo.mu 2 _,h.own.fw (λe=>h.ne e.symm) _⟩
theorem eF.Np (h:eF w p b S)(x:Int):eF (w.setCell ⟨p,3,E⟩ (I J x)) p b {S with used:=x}:=⟨h.fo.mu 3 _,h.own.fw (λe=>h.ne e.symm) _⟩
theorem eF.sX (h:eF w p b S)(x:Int):eF (w.setCell ⟨p,4,E⟩ (I J x)) p b {S with ops:=x}:=⟨h.fo.mu 4 _,h.own.fw (λe=>h.ne e.symm) _⟩
theorem eF.J4 (h:eF w p b S)(x:Int):eF (w.setCell ⟨p,5,E⟩ (I J x)) p b {S with reads:=x}:=⟨h.fo.mu 5 _,h.own.fw (λe=>h.ne e.symm) _⟩
theorem eF.kS (h:eF w p b S)(x:Bool):eF (w.setCell ⟨p,6,E⟩ (.bool x)) p b {S with down:=x}:=⟨h.fo.mu 6 _,h.own.fw (λe=>h.ne e.symm) _⟩
theorem eF.jH {L'}(h:eF w p b S)(ho:Own w' b L')(ht:w.mapTurned w' b):eF w' p b {S with L:=L'}:=
 ⟨((Kp.jH (p:=b) ht).block p h.fo.lt h.ne h.ne).trans h.fo,ho⟩
end
theorem vZ:prog.underlying 107=G (.map 9 142):=kr
theorem sN:prog.underlying 9=G .string:=kr
theorem wF:Keyed prog 9:=string_keyed sN
theorem zh (w:World):(zeroValue 142).run prog w= .ok (.agg #[.string ⟨#[]⟩,I J 0]) w:=kr
def px:Option Fl->ay
 | some f=>f.s++f.l
 | none=>⟨#[]⟩
def FH:Option Fl->Nat
 | some f=>f.s.size
 | none=>0
abbrev yX (o:Option Fl):Value:=.agg #[.string (px o),I J (FH o:Nat)]
theorem Bw {n:ay}(hn:n.size<=maxLen):keyOf prog 9 (.string n)=G (.string n.data.toList):=WideMaps.keyOf_string_mk sN hn
theorem Pu {a c:Value}(h:(DataW.held a:DataW Value)= .held c):a=c:=by injection h
theorem YC (L)(n:ay):(CZ L).atKey (.string n.data.toList) (.held (yX E))= .held (yX (gG L n)):=by
 rw[L4];cases gG L n<;>rfl
theorem Ja {L}{n:ay}{v}{ps:List MemPlace}(hv:Ey v=G ((CZ L).atKey (.string n.data.toList) (.held (yX E)),ps)):v=yX (gG L n):=by
 rw[YC] at hv;exact Pu (aP Prod.fst (Option.some.inj hv))
section
variable {w:World}{b:Nat}{L:List Fl}{n:ay}
theorem mH (h:Own w b L)(hn:n.size<=maxLen):(Instr.lookup 107 (.map (G b)) (.string n) z).run prog w= .ok (yX (gG L n)) w:=by
 obtain⟨v,ps,hr,hv⟩:=World.ownsMap.lookup h wF vZ (zh w) (zd:=.held (yX E)) (zp:=[]) D (Bw hn);rw[hr];have e:v=yX (gG L n):=by
  exact Ja hv
 rw[e]
theorem Dh (h:Own w b L)(hn:n.size<=maxLen):(Instr.lookup 107 (.map (G b)) (.string n) Q).run prog w= .ok (.tuple #[yX (gG L n),.bool (gG L n).isSome]) w:=by
 obtain⟨v,ps,hr,hv⟩:=World.ownsMap.look_ok h wF vZ (zh w) (zd:=.held (yX E)) (zp:=[]) D (Bw hn);rw[hr];have e:v=yX (gG L n):=by
  exact Ja hv
 rw[e,TU]
theorem Gy{L}(h:w.ownsMap prog 9 Ey b m (CZ L)):Own w b L:=by
 obtain⟨es,clock,hb,F,_,hD⟩:=h;refine⟨es,clock,hb,F,?_,hD⟩;have:Maps.size (CZ L)=es.size:=by rw[hD];exact length_read es
 rw[xz] at this;omega
theorem Si (h:Own w b L)(hl:L.length<maxLen)(f:Fl)(hf:f.n=n)(hn:n.size<=maxLen):
 ∃ w',(Instr.mapUpdate 107 (.map (G b)) (.string n) (mL f)).run prog w= .ok () w'/\Own w' b (ja L f)/\w.mapTurned w' b:=by
 obtain⟨w',hr,ho,ht⟩:=World.ownsMap.store h wF vZ hl (Bw hn) (d:=.held (mL f)) (ps:=[]) (val:=mL f) D;refine⟨w',hr,Gy (m:=L.length+1) ?_,ht⟩;rw[<-hf,SJ] at ho;exact ho
end
section
variable {P:Program}(w:World){ops:Array Oper}{rest:List Oper}{o:Oper}{a:Act}{ar:Exit->Act->World->Prop}
theorem lC (hg:o.guard=E)(m x)(hop:o.op=Op.lookup 107 m x z)(b:Nat)(L:List Fl)(n:ay)
 (hm:a.eval m= .map (G b)) (h:Own w b L) (hx:a.eval x= .string n) (hn:n.size<=maxLen) (hK:wpList prog ops ar rest (a.put o.dst (yX (gG L n))) w):wpList prog ops ar (o::rest) a w:=by
 refine wpList_plain hg λK' hK'=>?_;unfold Oper.wp;simp[execOp,hop,hm,hx,mH h hn,Result.andThen];exact hK' _ _ hK
theorem ql (hg:o.guard=E)(m x)(hop:o.op=Op.lookup 107 m x Q)(b:Nat)(L:List Fl)(n:ay)
 (hm:a.eval m= .map (G b)) (h:Own w b L) (hx:a.eval x= .string n) (hn:n.size<=maxLen) (hK:wpList prog ops ar rest (a.put o.dst (.tuple #[yX (gG L n),.bool (gG L n).isSome])) w):wpList prog ops ar (o::rest) a w:=by
 refine wpList_plain hg λK' hK'=>?_;unfold Oper.wp;simp[execOp,hop,hm,hx,Dh h hn,Result.andThen];exact hK' _ _ hK
theorem lB (hg:o.guard=E)(m x v)(hop:o.op=Op.mapUpdate 107 m x v)(b:Nat)(L:List Fl)(n:ay)(f:Fl)
 (hm:a.eval m= .map (G b)) (h:Own w b L) (hl:L.length<maxLen) (hx:a.eval x= .string n) (hv:a.eval v=mL f) (hf:f.n=n) (hn:n.size<=maxLen)
 (hK:∀ w',Own w' b (ja L f)->w.mapTurned w' b->wpList prog ops ar rest (a.put o.dst undef) w'):wpList prog ops ar (o::rest) a w:=by
 refine wpList_plain hg λK' hK'=>?_;obtain⟨w',hr,h1,h2⟩:=Si h hl f hf hn;unfold Oper.wp;simp[execOp,hop,hm,hx,hv,hr,Result.andThen];exact hK' _ _ (hK w' h1 h2)
theorem vw (hg:o.guard=E)(m x:Operand)(hop:o.op=Op.call {callee:=Callee.builtin Builtin.delete,args:=#[m,x],argTypes:=#[107,9]})(b:Nat)(L:List Fl)(n:ay)
 (hm:a.eval m= .map (G b)) (h:Own w b L) (hx:a.eval x= .string n) (hn:n.size<=maxLen)
 (hK:∀ w',Own w' b (wo L n)->w.mapTurned w' b->wpList prog ops ar rest (a.put o.dst (.tuple #[])) w'):wpList prog ops ar (o::rest) a w:=by
 refine wpList_delete_own w hg m x _ _ hop _ wF vZ Ey b L.length (CZ L) hm h (.string n) (.string n.data.toList) hx (Bw hn) ?_;intro w' h1 h2;exact hK w' (Gy (by rw[Ug] at h1;exact h1)) h2
end
def vN (L:List Fl)(n:ay):Nat:=if(gG L n).isSome then 0 else 51
section
variable {w:World}{p b:Nat}{S:Dk}
theorem jV (h:eF w p b S){n:ay}(hn:n.size<=maxLen):
 Calls prog 169 #[.pointer (G ⟨p,0,E⟩),.string n] w λe w'=>e= .returned (I J (vN S.L n:Nat))/\Below w.heap.size w w':=by
 obtain⟨lt,c0,c1,c2,c3,c4,c5,c6⟩:=h.cells;have ho:=h.own;generalize S.L=L at*;cases hB:(gG L n).isSome with
 | true=>
  have HT:=H (show vN L n=0 by unfold vN;rw[hB];rfl);exact rq
 | false=>
  have HT:=H (show vN L n=51 by unfold vN;rw[hB];rfl);exact rq
theorem tM (h:eF w p b S){n:ay}(hn:n.size<=maxLen):
 Calls prog 99 #[.pointer (G ⟨p,0,E⟩),.string n] w λe w'=>e= .returned (.tuple #[I J ((px (gG S.L n)).size:Nat),.bool (gG S.L n).isSome])/\Below w.heap.size w w':=by
 obtain⟨lt,c0,c1,c2,c3,c4,c5,c6⟩:=h.cells;have ho:=h.own;generalize S.L=L at*
 go_enter func99,ntmps99
 go_wp2_with (at_lookup;refine ql _ D _ _ D b L n D ho D hn ?_)
 go_ret2
 exact⟨D,(aa4 _ _).alloc (aB _) _⟩
theorem KG (h:eF w p b S){n:ay}(hn:n.size<=maxLen)(hs:(px (gG S.L n)).size<=9223372036854775807)(hs2:FH (gG S.L n)<=(px (gG S.L n)).size):
 Calls prog 158 #[.pointer (G ⟨p,0,E⟩),.string n] w λe w'=>e= .returned (I J (((px (gG S.L n)).size:Nat) - (FH (gG S.L n):Nat)))/\Below w.heap.size w w':=by
 obtain⟨lt,c0,c1,c2,c3,c4,c5,c6⟩:=h.cells;have ho:=h.own;generalize S.L=L at*
 go_enter func158,ntmps158
 go_wp2_with (at_lookup;refine lC _ D _ _ D b L n D ho D hn ?_)
 go_ret;exact⟨D,(aa4 _ _).alloc (aB _) _⟩
end
def kJ (ld:Int):Dk:={L:=[],ld:=min (max ld 0) 1073741824,jL:=-1,used:=0,ops:=0,reads:=0,down:=z}
theorem GD (w:World)(v:Int):eF ((w.alloc (.map #[] 0)).alloc (.cells #[.map (G w.heap.size),I J v,I J (-1),I J 0,I J 0,I J 0,.bool z] 109)) (w.heap.size+1) w.heap.size {kJ 0 with ld:=v}:=by
 refine⟨?_,Own.alloc (Gy (World.ownsMap_made _ _ _ _)) _⟩;have:=fP.new (w.alloc (.map #[] 0)) 109 #[.map (G w.heap.size),I J v,I J (-1),I J 0,I J 0,I J 0,.bool z];rw[show(w.alloc (.map #[] 0)).heap.size=w.heap.size+1 by simp] at this;exact this
theorem GC {v:Int}(h:min (max ld 0) 1073741824=v):kJ ld= {kJ 0 with ld:=v}:=by subst h;rfl
theorem LZ (w:World)(a c:Obj):Below w.heap.size w ((w.alloc a).alloc c):=((aa4 _ _).alloc (aB _) _).alloc sm _
theorem Tn (ld:Int)(w:World):
 Calls prog 31 #[I J ld] w λe w'=>e= .returned (.pointer (G ⟨w.heap.size+1,0,E⟩))/\eF w' (w.heap.size+1) w.heap.size (kJ ld)/\Below w.heap.size w w':=by
 have hmm:=@run_makeMap prog
 go_enter func31,ntmps31
 go_wp2
 all_goals
  go_ret;refine⟨D,?_,LZ _ _ _⟩
  first
   | (rw[GC (ld:=ld) (v:=ld) om];exact GD _ _)
   | (rw[GC (ld:=ld) (v:=0) om];exact GD _ _)
   | (rw[GC (ld:=ld) (v:=1073741824) om];exact GD _ _)
def qB (c:UInt8):Bool:=(decide (97<=c.toNat)&&decide (c.toNat<=122))||(decide (48<=c.toNat)&&decide (c.toNat<=57))
def jD (l:List UInt8):Bool:=l.all qB
def Av (n:ay):Bool:=decide (1<=n.size)&&decide (n.size<=20)&&jD n.data.toList
theorem yI (l:List UInt8)(c:UInt8):jD (l++[c])=(jD l&&qB c):=by simp[jD]
theorem lh (s:ay)(k:Nat)(h:k<s.size):s.data.toList.take (k+1)=s.data.toList.take k++[s[k]]:=by
 rw[aL fc];rfl
theorem vC (s:ay):s.data.toList.take s.size=s.data.toList:=bz (by show s.data.toList.length<=s.data.size;simp)
theorem Hn {s:ay}(h:k<s.size)(ha:jD (s.data.toList.take k)=Q)(hc:qB s[k]=Q):jD (s.data.toList.take (k+1))=Q:=by
 rw[lh s k h,yI,ha,hc];rfl
theorem Ma {s:ay}(h:k<s.size)(hc:qB s[k]=z):Av s=z:=by
 have e:jD s.data.toList=z:=by
  unfold jD;exact abD
 unfold Av;rw[e];simp
theorem Tc {c:UInt8}(h:(97<=(c.toNat:Int)/\(c.toNat:Int)<=122)∨(48<=(c.toNat:Int)/\(c.toNat:Int)<=57)):qB c=Q:=by
 unfold qB;simp only[bV,aM,aN];omega
theorem WB {c:UInt8}(h:¬((97<=(c.toNat:Int)/\(c.toNat:Int)<=122)∨(48<=(c.toNat:Int)/\(c.toNat:Int)<=57))):qB c=z:=by
 rw[<-cS];unfold qB;simp only[bV,aM,aN];omega
theorem Iu {s:ay}(h:jD s.data.toList=Q)(v:Bool)(hv:v=Q↔1<=s.size/\s.size<=20):Av s=v:=by
 rw[cv,hv];unfold Av;rw[h];simp
theorem lM (s:ay)(w:World)(hs:s.size<=9223372036854775807):
 Calls prog 168 #[.string s] w λe w'=>e= .returned (.bool (Av s))/\w=w':=by
 go_enter func168,ntmps168
 go_wp2
 go_loop [7] (λi=>∃ k:Nat,k<=s.size/\jD (s.data.toList.take k)=Q/\i= I J k) (λi=>s.size - (intOf i).toNat)
 case atStart=>exact⟨0,aD _,D,D⟩
 case round=>
  obtain⟨k,hk,ha,rfl⟩:=hrel;have HA:=H ha;clear ha;by_cases hlt:k<s.size
  ·have HN:=λ(hc:qB s[k]=Q)=>H (Hn hlt HA hc);have HF:=λ(hc:qB s[k]=z)=>H (Ma hlt hc);replace HN:=H HN;replace HF:=H HF
   go_wp2
   all_goals
    first
    | (go_ret;exact⟨by rw[(HF (WB om)).out];rfl,D⟩)
    | (go_round
       case rel=>exact⟨k+1,om,(HN (Tc om)).out,eB⟩
       case measure=>simp[intOf];omega)
  ·obtain rfl:k=s.size:=om;have HE:=H (show jD s.data.toList=Q by rw[<-vC s];exact HA)
   go_wp2
   all_goals
    go_ret
    first
    | exact⟨by rw[Iu HE.out (decide ((s.size:Int)<=20)) eC];rfl,D⟩
    | exact⟨by rw[Iu HE.out z eC];rfl,D⟩
abbrev ptr (x:Nat):Value:=.pointer (G ⟨x,0,E⟩)
def lE:ay:=⟨#[]⟩
theorem Cn (a:ay):a++lE=a:=lv (by rw[yH];simp[lE])
theorem PZ (n:ay):(Value.agg #[.string ⟨#[]⟩,I J 0])=mL ⟨n,lE,lE⟩:=by
 unfold mL;simp only[Cn];rfl
theorem eU{a}{v}(h:w.cell? a=G v):a.block<w.heap.size:=by
 rcases bZ a.block w.heap.size with h' | h'
 ·exact h'
 ·simp[World.cell?,Array.getElem?_eq_none h'] at h
theorem iO{a}{v}(h:w.cell? a=G v)(o):(w.drew.alloc o).cell? a=G v:=
 (World.cell?_alloc_lt w.drew o a (eU h)).trans h
theorem sZ (B:ay)(m:Int)(w:World):(Instr.field 142 (.agg #[.string B,I J m]) 0).run prog w= .ok (.string B) w:=kr
section
variable {w:World}{p b x y au:Nat}{S:Dk}
theorem Fh (h:eF w p b S)(hl:S.L.length<maxLen){n:ay}(hn:n.size<=maxLen)(hx:w.cell? ⟨x,0,E⟩=G (ptr p))(hy:w.cell? ⟨y,0,E⟩=G (.string n)):
 Calls prog 171 #[ptr x,ptr y] w λe w'=>e= .returned (.tuple #[])/\eF w' p b {S with L:=ja S.L ⟨n,lE,lE⟩}/\Kp p b w w':=by
 obtain⟨lt,c0,c1,c2,c3,c4,c5,c6⟩:=h.cells;have ah:=H h
 go_enter func171,ntmps171
 go_wp2
 go_still_tail 6,kr
 refine lB _ D _ _ _ D b S.L n ⟨n,lE,lE⟩ D ah.drew.own hl D (PZ n) D hn ?_;intro w1 ho ht
 go_wp2
 go_end0;exact⟨D,ah.drew.jH ho ht,(Kp.drew w).trans (Kp.jH ht)⟩
theorem wP {L}{v}(h:w.cell? ⟨x,i,E⟩=G v)(ho:Own w b L):x≠b:=by
 rintro rfl;obtain⟨es,clock,hb,_⟩:=ho;simp[World.cell?,hb] at h
theorem oF{v}(ht:w.mapTurned w' b)(h:w.cell? ⟨x,i,E⟩=G v)(hne:x≠b):w'.cell? ⟨x,i,E⟩=G v:=
 ((Kp.jH (p:=b) ht).cell (eU h) hne hne).trans h
theorem P7 {f:Fl}{n t:ay}:(Value.agg #[.string (f.s++f.l++t),I J (f.s.size:Nat)])=mL ⟨n,f.s,f.l++t⟩:=by
 unfold mL;rw[ByteArray.append_assoc]
theorem Fu (h:eF w p b S)(hl:S.L.length<maxLen){n t:ay}(hn:n.size<=maxLen){f}(hf:gG S.L n=G f)(hx:w.cell? ⟨x,0,E⟩=G (ptr p))(hy:w.cell? ⟨y,0,E⟩=G (.string n))(hz:w.cell? ⟨au,0,E⟩=G (.string t))
 (hu0:0<=S.used) (hu1:S.used+t.size<=9223372036854775807) (hcat:(f.s++f.l).size+t.size<=9223372036854775807):
 Calls prog 210 #[ptr x,ptr y,ptr au] w λe w'=>e= .returned (.tuple #[])/\eF w' p b {S with L:=ja S.L ⟨n,f.s,f.l++t⟩,used:=S.used+t.size}/\Kp p b w w':=by
 have hc:=h.cells;obtain⟨lt,c0,c1,c2,c3,c4,c5,c6⟩:=hc;have hlk:=mH h.drew.own hn;have hlk2:=λo=>mH (h.drew.own.alloc o) hn;rw[hf] at hlk hlk2;unfold yX px FH at hlk hlk2;obtain⟨HX,HZ⟩:=eN (wP hx h.own) (wP hz h.own);have lx:=eU hx;have ly:=eU hy;have lz:=eU hz;simp only at lx ly lz;have ah:=H h
 go_enter func210,ntmps210
 go_wp2
 go_region_held3 (λw'=>w'.cell? ⟨x,0,E⟩=G (ptr p)/\w'.cell? ⟨y,0,E⟩=G (.string n)/\w'.cell? ⟨p,0,E⟩=G (.map (G b))/\(Instr.lookup 107 (.map (G b)) (.string n) z).run prog w'= .ok (.agg #[.string (f.s++f.l),I J (f.s.size:Nat)]) w')
  (first | exact⟨hx,hy,c0,hlk⟩ | exact⟨(iO hx _),(iO hy _),(iO c0 _),hlk2 _⟩) (fail)
 all_goals
  go_wp2
  obtain⟨W,hW⟩:=fe ((w.alloc (.cells #[.string (f.s++f.l++t),I J (f.s.size:Nat)] 142)).drew);have D0:eF W p b S:=by rw[hW];exact(ah.alloc _).drew
  have X0:W.cell? ⟨x,0,E⟩=G (ptr p):=by rw[hW];exact iO hx _
  have Y0:W.cell? ⟨y,0,E⟩=G (.string n):=by rw[hW];exact iO hy _
  have Z0:W.cell? ⟨au,0,E⟩=G (.string t):=by rw[hW];exact iO hz _
  have K0:Kp p b w W:=by rw[hW];exact(Kp.alloc _ _).trans (Kp.drew _)
  have N0:W.cell? ⟨w.heap.size,0,E⟩=G (.string (f.s++f.l++t)):=by rw[hW];simp
  have N1:W.cell? ⟨w.heap.size,1,E⟩=G (I J (f.s.size:Nat)):=by rw[hW];simp
  obtain⟨lt0,d0,-⟩:=D0.cells;rw[<-hW];have D1:=H D0;clear hW hx hy hz lx ly lz lt
  go_still_tail 6,kr
  refine lB _ D _ _ _ D b S.L n ⟨n,f.s,f.l++t⟩ D D1.drew.own hl D P7 D hn ?_;intro w1 ho ht;have D2:=D1.drew.jH ho ht;have X1:w1.cell? ⟨x,0,E⟩=G (ptr p):=oF ht X0 HX;have Z1:w1.cell? ⟨au,0,E⟩=G (.string t):=oF ht Z0 HZ;have K1:=K0.trans ((Kp.drew _).trans (Kp.jH ht));obtain⟨lt1,-,-,-,d3,-⟩:=D2.cells;have f3:=D2.fo.frozen 3;have D3:=H D2;simp only at d3
  go_wp2
  go_still_tail 9,kr
  go_wp2
  go_end0;exact⟨D,D3.drew.Np _,K1.trans ((Kp.drew _).trans (Kp.tP _ _ _))⟩
theorem PW {f:Fl}{n:ay}:(Value.agg #[.string (f.s++f.l),I J ((f.s.size:Nat)+(f.l.size:Nat))])=mL ⟨n,f.s++f.l,lE⟩:=by
 unfold mL;simp only[Cn,mc];rfl
theorem PY {f:Fl}{n:ay}:(Value.agg #[.string (f.s++f.l),I J (f.s.size:Nat)])=mL ⟨n,f.s,f.l⟩:=rfl
theorem JT (h:eF w p b S)(hl:S.L.length<maxLen){n:ay}(hn:n.size<=maxLen){f}(hf:gG S.L n=G f)(hx:w.cell? ⟨x,0,E⟩=G (ptr p))(hy:w.cell? ⟨y,0,E⟩=G (.string n)):
 Calls prog 212 #[ptr x,ptr y] w λe w'=>e= .returned (.tuple #[])/\eF w' p b {S with L:=ja S.L ⟨n,f.s++f.l,lE⟩}/\Kp p b w w':=by
 have hc:=h.cells;obtain⟨lt,c0,c1,c2,c3,c4,c5,c6⟩:=hc;have hlk:=mH h.drew.own hn;have hlk2:=λo=>mH (h.drew.own.alloc o) hn;rw[hf] at hlk hlk2;unfold yX px FH at hlk hlk2;have ah:=H h
 go_enter func212,ntmps212
 go_wp2
 go_region_held3 (λw'=>w'.cell? ⟨x,0,E⟩=G (ptr p)/\w'.cell? ⟨y,0,E⟩=G (.string n)/\w'.cell? ⟨p,0,E⟩=G (.map (G b))/\(Instr.lookup 107 (.map (G b)) (.string n) z).run prog w'= .ok (.agg #[.string (f.s++f.l),I J (f.s.size:Nat)]) w')
  (first | exact⟨hx,hy,c0,hlk⟩ | exact⟨(iO hx _),(iO hy _),(iO c0 _),hlk2 _⟩) (fail)
 all_goals
  go_wp2
  obtain⟨W,hW⟩:=fe ((w.alloc (.cells #[.string (f.s++f.l),I J ((f.s.size:Nat)+(f.l.size:Nat))] 142)).drew);have D0:eF W p b S:=by rw[hW];exact(ah.alloc _).drew
  have X0:W.cell? ⟨x,0,E⟩=G (ptr p):=by rw[hW];exact iO hx _
  have Y0:W.cell? ⟨y,0,E⟩=G (.string n):=by rw[hW];exact iO hy _
  have K0:Kp p b w W:=by rw[hW];exact(Kp.alloc _ _).trans (Kp.drew _)
  have N0:W.cell? ⟨w.heap.size,0,E⟩=G (.string (f.s++f.l)):=by rw[hW];simp
  have N1:W.cell? ⟨w.heap.size,1,E⟩=G (I J ((f.s.size:Nat)+(f.l.size:Nat))):=by rw[hW];simp
  obtain⟨lt0,d0,-⟩:=D0.cells;rw[<-hW];have D1:=H D0;clear hW hx hy lt
  go_still_tail 6,kr
  refine lB _ D _ _ _ D b S.L n ⟨n,f.s++f.l,lE⟩ D D1.drew.own hl D PW D hn ?_;intro w1 ho ht
  go_wp2
  go_end0;exact⟨D,D1.drew.jH ho ht,K0.trans ((Kp.drew _).trans (Kp.jH ht))⟩
theorem Ff (h:eF w p b S){n:ay}(hn:n.size<=maxLen)(hx:w.cell? ⟨x,0,E⟩=G (ptr p))(hy:w.cell? ⟨y,0,E⟩=G (.string n))
 (hu0:(px (gG S.L n)).size<=S.used) (hu1:S.used<=9223372036854775807):
 Calls prog 225 #[ptr x,ptr y] w λe w'=>e= .returned (.tuple #[])/\eF w' p b {S with L:=wo S.L n,used:=S.used - (px (gG S.L n)).size}/\Kp p b w w':=by
 have hc:=h.cells;obtain⟨lt,c0,c1,c2,c3,c4,c5,c6⟩:=hc;have hlk:=mH h.drew.own hn;have f3:=h.fo.frozen 3;have hxp:x≠p:=by
  rintro rfl;rw[c0] at hx;cases hx
 have hyp:y≠p:=by
  rintro rfl;rw[c0] at hy;cases hy
 have hx2:∀ v,(w.setCell ⟨p,3,E⟩ v).cell? ⟨x,0,E⟩=G (ptr p):=λv=>by rw[World.cell?_setCell_other _ _ _ _ (by intro e;injection e with e;exact hxp e.symm)];exact hx
 have hy2:∀ v,(w.setCell ⟨p,3,E⟩ v).cell? ⟨y,0,E⟩=G (.string n):=λv=>by rw[World.cell?_setCell_other _ _ _ _ (by intro e;injection e with e;exact hyp e.symm)];exact hy
 unfold yX at hlk;have hfl:=sZ;generalize (px (gG S.L n))=B at*;have ah:=H h;replace hxp:=H hxp;replace hyp:=H hyp;replace hx2:=H hx2;replace hy2:=H hy2
 go_enter func225,ntmps225
 go_wp2
 go_still_tail 15,kr
 go_wp2
 obtain⟨W,hW⟩:=fe ((w.setCell ⟨p,3,E⟩ (I J (S.used - B.size))).drew);have D0:eF W p b {S with used:=S.used - B.size}:=by rw[hW];exact(ah.Np _).drew
 have X0:W.cell? ⟨x,0,E⟩=G (ptr p):=by rw[hW];exact hx2 _
 have Y0:W.cell? ⟨y,0,E⟩=G (.string n):=by rw[hW];exact hy2 _
 have K0:Kp p b w W:=by rw[hW];exact(Kp.tP _ _ _).trans (Kp.drew _)
 obtain⟨lt0,d0,-⟩:=D0.cells;rw[<-hW];have D1:=H D0;clear hW hx hy c0 lt hlk
 go_still_tail 5,kr
 refine vw _ D _ _ D b S.L n D D1.drew.own D hn ?_;intro w1 ho ht
 go_wp2
 go_end0;exact⟨D,D1.drew.jH ho ht,K0.trans ((Kp.drew _).trans (Kp.jH ht))⟩
end
theorem ZD (m:ay):(m.toList==m.toList)=Q:=sm
theorem Wc {m n:ay}(h:m≠n):(m.toList==n.toList)=z:=by
 rw[ByteArray.toList_eq,ByteArray.toList_eq];exact vp.2 h
theorem yD{a:Addr}{x:Nat}{v u}(h:w.cell? ⟨x,0,E⟩=G v)(hne:x≠a.block):(w.setCell a u).cell? ⟨x,0,E⟩=G v:=by
 rw[World.cell?_setCell_other _ _ _ _ (by rintro rfl;exact hne D)];exact h
section
variable {w:World}{p b x y au:Nat}{S:Dk}
theorem Be (h:eF w p b S){m:ay}(hx:w.cell? ⟨x,0,E⟩=G (.string m))(hy:w.cell? ⟨y,0,E⟩=G (.string m)):
 Calls prog 274 #[ptr x,ptr y,ptr au] w λe w'=>e= .returned (.tuple #[])/\eF w' p b S/\Kp p b w w':=by
 have ah:=H h
 go_enter func274,ntmps274
 go_wp2
 refine aa1 (results_none D _ _ _) D ?_;exact⟨D,ah,Kp.refl _ _ _⟩
theorem Dq (h:eF w p b S)(hl:S.L.length<maxLen){m n:ay}(hm:m.size<=maxLen)(hn:n.size<=maxLen)(hne:m≠n){f}(hf:gG S.L m=G f)
 (hx:w.cell? ⟨x,0,E⟩=G (.string m)) (hy:w.cell? ⟨y,0,E⟩=G (.string n)) (hz:w.cell? ⟨au,0,E⟩=G (ptr p))
 (hu0:(px (gG S.L n)).size<=S.used) (hu1:S.used<=9223372036854775807):
 Calls prog 274 #[ptr x,ptr y,ptr au] w λe w'=>e= .returned (.tuple #[])/\eF w' p b {S with L:=wo (ja S.L ⟨n,f.s,f.l⟩) m,used:=S.used - (px (gG S.L n)).size}/\Kp p b w w':=by
 have hc:=h.cells;obtain⟨lt,c0,c1,c2,c3,c4,c5,c6⟩:=hc;have hlk:=mH h.drew.own hn;have hlkm:∀ W:World,Own W b S.L->(Instr.lookup 107 (.map (G b)) (.string m) z).run prog W= .ok (.agg #[.string (f.s++f.l),I J (f.s.size:Nat)]) W:=λW hW=>by
  have:=mH hW hm;rw[hf] at this;exact this
 obtain⟨HX,HZ⟩:=eN (wP hx h.own) (wP hz h.own);have f3:=h.fo.frozen 3;have hxp:x≠p:=by
  rintro rfl;rw[c0] at hx;cases hx
 have hyp:y≠p:=by
  rintro rfl;rw[c0] at hy;cases hy
 have hzp:au≠p:=by
  rintro rfl;rw[c0] at hz;cases hz
 have hq:=Wc hne;unfold yX at hlk;have hfl:=sZ;generalize (px (gG S.L n))=B at*;have ah:=H h;replace hxp:=H hxp;replace hyp:=H hyp;replace hzp:=H hzp;replace hlkm:=H hlkm
 go_enter func274,ntmps274
 go_wp2
 go_still_tail 15,kr
 go_wp2
 obtain⟨W,hW⟩:=fe ((w.setCell ⟨p,3,E⟩ (I J (S.used - B.size))).drew);have D0:eF W p b {S with used:=S.used - B.size}:=by rw[hW];exact(ah.Np _).drew
 have X0:W.cell? ⟨x,0,E⟩=G (.string m):=by rw[hW];exact yD hx hxp
 have Y0:W.cell? ⟨y,0,E⟩=G (.string n):=by rw[hW];exact yD hy hyp
 have Z0:W.cell? ⟨au,0,E⟩=G (ptr p):=by rw[hW];exact yD hz hzp
 have K0:Kp p b w W:=by rw[hW];exact(Kp.tP _ _ _).trans (Kp.drew _)
 obtain⟨lt0,d0,-⟩:=D0.cells;have hlk3:=hlkm _ D0.drew.own;rw[<-hW];have D1:=H D0;clear hW hx hy hz c0 lt hlk
 go_still_tail 11,kr
 refine lB _ D _ _ _ D b S.L n ⟨n,f.s,f.l⟩ D D1.drew.own hl D PY D hn ?_;intro w1 ho ht;have D2:=D1.drew.jH ho ht;have X1:w1.cell? ⟨x,0,E⟩=G (.string m):=oF ht X0 HX;have Z1:w1.cell? ⟨au,0,E⟩=G (ptr p):=oF ht Z0 HZ;have K1:Kp p b w w1:=K0.trans ((Kp.drew _).trans (Kp.jH ht));obtain⟨lt1,d0,-⟩:=D2.cells;have D3:=H D2;clear ho ht hlk3
 go_wp2
 go_still_tail 5,kr
 refine vw _ D _ _ D b (ja S.L ⟨n,f.s,f.l⟩) m D D3.drew.own D hm ?_;intro w2 ho ht
 go_wp2
 go_end0;exact⟨D,D3.drew.jH ho ht,K1.trans ((Kp.drew _).trans (Kp.jH ht))⟩
end
def tick (S:Dk):Dk:={S with jL:=max (S.jL - 1) (-1),ops:=S.ops+1}
section
variable {w:World}{p b:Nat}{S:Dk}
theorem Ta (h:eF w p b S)(hd:S.down=Q)(e:Int)(F:Value):
 Calls prog 170 #[ptr p,I J e,F] w λr w'=>r= .returned (I J 50)/\w=w':=by
 obtain⟨lt,c0,c1,c2,c3,c4,c5,c6⟩:=h.cells;rw[hd] at c6
 go_enter func170,ntmps170
 go_wp2
 go_ret;exact⟨D,D⟩
theorem Wx (h:eF w p b S)(hd:S.down=z)(e:Int)(he:e≠0)(F:Value):
 Calls prog 170 #[ptr p,I J e,F] w λr w'=>r= .returned (I J e)/\w=w':=by
 obtain⟨lt,c0,c1,c2,c3,c4,c5,c6⟩:=h.cells;rw[hd] at c6
 go_enter func170,ntmps170
 go_wp2
 go_ret;exact⟨D,D⟩
theorem S7 (h:eF w p b S)(hd:S.down=z)(hf:S.jL=0)(F:Value):
 Calls prog 170 #[ptr p,I J 0,F] w λr w'=>r= .returned (I J 50)/\eF w' p b {S with down:=Q}/\Kp p b w w':=by
 obtain⟨lt,c0,c1,c2,c3,c4,c5,c6⟩:=h.cells;rw[hd] at c6;rw[hf] at c2;have f6:=h.fo.frozen 6;have ah:=H h
 go_enter func170,ntmps170
 go_wp2
 go_ret;exact⟨D,ah.kS _,Kp.tP _ _ _⟩
def Re (F:FuncId)(aj:Array Value)(p b:Nat)(w:World)(S S':Dk):Prop:=
 ∀ w1,eF w1 p b S->Kp p b w w1->Calls prog F aj w1 λe w'=>e= .returned (.tuple #[])/\eF w' p b S'/\Kp p b w1 w'
theorem Tb (h:eF w p b S)(hd:S.down=z)(hf:S.jL≠0)(hf1: -1<=S.jL)(hf2:S.jL<=9223372036854775807)(ho1:0<=S.ops)(ho2:S.ops<9223372036854775807){F}{aj}{S'}(hc:Re F aj p b w (tick S) S')(hl:∀ W:World,(callFunc F aj).run prog W= .ok (.enter F aj) W):
 Calls prog 170 #[ptr p,I J 0,.func (.func F) #[] aj] w λr w'=>r= .returned (I J 0)/\eF w' p b S'/\Kp p b w w':=by
 obtain⟨lt,c0,c1,c2,c3,c4,c5,c6⟩:=h.cells;rw[hd] at c6;have f2:=h.fo.frozen 2;have f4:=h.fo.frozen 4;obtain⟨ah,HC⟩:=eN h hc
 go_enter func170,ntmps170
 go_wp2_with fail
 have aq:eF ((w.setCell ⟨p,2,E⟩ (I J (-1))).setCell ⟨p,4,E⟩ (I J (S.ops+1))) p b (tick S):=by
  have e:max (S.jL - 1) (-1)= -1:=om;unfold tick;rw[e];exact(ah.Wb _).sX _
 have K:Kp p b w ((w.setCell ⟨p,2,E⟩ (I J (-1))).setCell ⟨p,4,E⟩ (I J (S.ops+1))):=(Kp.tP _ _ _).trans (Kp.tP _ _ _);rotate_left;have aq:eF ((w.setCell ⟨p,2,E⟩ (I J (S.jL - 1))).setCell ⟨p,4,E⟩ (I J (S.ops+1))) p b (tick S):=by
  have e:max (S.jL - 1) (-1)=S.jL - 1:=om;unfold tick;rw[e];exact(ah.Wb _).sX _
 have K:Kp p b w ((w.setCell ⟨p,2,E⟩ (I J (S.jL - 1))).setCell ⟨p,4,E⟩ (I J (S.ops+1))):=(Kp.tP _ _ _).trans (Kp.tP _ _ _);rotate_left
 all_goals
  refine(HC _ aq K).mono ?_;rintro e w1 ⟨rfl,D1,K1⟩;have D2:=H D1
  go_wp2
  go_ret;exact⟨D,D2,K.trans K1⟩
def zK (S:Dk)(e:Nat)(S':Dk):Dk×Nat:=if S.down then(S,50) else if e≠0 then(S,e) else if S.jL=0 then({S with down:=Q},50) else(S',0)
structure Bd (S:Dk):Prop where
 Vg: -1<=S.jL
 Vf:S.jL<=9223372036854775807
 YE:0<=S.ops
 YD:S.ops<=1099511627776
 th:0<=S.reads
 xK:S.reads<=1099511627776
 len:S.L.length<=1048576
 used:S.used=(mV S.L:Nat)
 xd:mV S.L<=1073741824
 YQ:0<=S.ld
 YP:S.ld<=1073741824
 oB:jP S.L
def jE (R:Dk×Nat)(p b:Nat)(w:World)(r:Ending)(w':World):Prop:=r= .returned (I J (R.2:Nat))/\eF w' p b R.1/\Kp p b w w'
theorem pK (h:eF w p b S)(B:Bd S)(e:Nat){F}{aj}{S'}(hc:S.down=z->e=0->S.jL≠0->Re F aj p b w (tick S) S')(hl:∀ W:World,(callFunc F aj).run prog W= .ok (.enter F aj) W):
 Calls prog 170 #[ptr p,I J (e:Nat),.func (.func F) #[] aj] w (jE (zK S e S') p b w):=by
 unfold zK jE;cases hd:S.down with
 | true=>
  rw[aA D];exact(Ta h hd e _).mono λr w' ⟨h1,h2⟩=>by subst h2;exact⟨h1,h,Kp.refl _ _ _⟩
 | false=>
  rw[az dc];by_cases he:e=0
  ·subst he;rw[az sm];by_cases hf:S.jL=0
   ·rw[aA hf];exact S7 h hd hf _
   ·rw[az hf];have:=B.YD;exact Tb h hd hf B.Vg B.Vf B.YE om (hc hd D hf) hl
  ·rw[aA he];exact(Wx h hd e om _).mono λr w' ⟨h1,h2⟩=>by subst h2;exact⟨h1,h,Kp.refl _ _ _⟩
end
