/- Lemmas for AfterglowSecret: what functions of the program return; no condition. -/
import Derived.Test.YtkpdknkidnfgiaaGreatDoorProg
import Derived.Deep.Cut
import Derived.Deep.CutRange
import Derived.Deep.LoopGhost
import Derived.Deep.OwnRows
import Derived.Laws.AppendOwnNone
import Derived.Lib.Walk
import Derived.Below
import Derived.Scope
import Derived.LoopTactic
import Derived.Test.YtkpdknkidnfgiaaGreatDoorJA
set_option maxHeartbeats 0
set_option maxRecDepth 100000
set_option linter.unusedVariables false
open Go.Value renaming int->I,string->C,slice->Z
open Option renaming none->E,some->G
open Bool renaming true->Q,false->z
open Go.Lib renaming hid->H
open Go.Proofs.Tryz
namespace Go.Proofs.YtkpdknkidnfgiaaGreatDoor
theorem abB{p:Prop}(h:p:=by
 refine⟨h.1,?_⟩;rcases h.2 with h | ⟨g,cap,cur,hv,hg,hh,r⟩
 ·exact .inl h
 ·exact .inr ⟨g,cap,cur,hv,hg,Bl.bl hb hh,r⟩):p:=h
variable {a:ByteArray} {xs:List Value} {A b b' bytes c cap g k n sz:Nat} {t ty:TypeId} {c0 c1 c10 c11 c12 c13 c14 c2 c3 c4 c5 c6 c7 c8 c9:Value} {V W W' w:World}
namespace Tp
open Go Go.RowKit
theorem w64 {n:Int}(h: -9223372036854775808<=n/\n<=9223372036854775807):wrap64 n=n:=by unfold wrap64;omega
theorem jh {n:Int}(h: -9223372036854775808<=n/\n<=9223372036854775807):IntKind.i64.wrap n=n:=(IntKind.wrap_i64 n).trans (w64 h)
theorem IV {b:ay}(h:a=b):(a.toList==b.toList)=Q:=by rw[h];simp
theorem Ej {b:ay}(h:a≠b):(a.toList==b.toList)=z:=by
 rw[aX];intro e;rw[ByteArray.toList_eq,ByteArray.toList_eq] at e;apply h;cases a;cases b;simpa[Array.toList_inj] using e
abbrev Bl (V W:World):Prop:=Below V.heap.size V W
abbrev aai(f:FuncId)(a:Array Value)(w:World)(v:Value):Prop:=Calls prog f a w λe w'=>e= .returned v/\Bl w w'
theorem Bl.eH:Bl V V:=aa4 _ _
theorem Bl.al(h:Bl V W)(o):Bl V (W.alloc o):=Below.alloc h h.size o
theorem Bl.dr(h:Bl V W):Bl V W.drew:=Below.drew h
theorem Bl.ca(h:Bl V W)(hb:Bl W W'):Bl V W':=h.trans (hb.mono h.size)
theorem Bl.st(h:Bl V W){p:Addr}(hp:V.heap.size<=p.block)(v):Bl V (W.setCell p v):=Below.setCell h hp v
theorem Bl.gr{row}(h:Bl V W)(hg:W.grownBy W' row)(hr:∀ k,row=G k->V.heap.size<=k):Bl V W':=Below.grown h hg h.size hr
theorem Bl.bl(h:Bl V W){o}(hA:V.heap[A]?=G o):W.heap[A]?=G o:=by
 have hl:A<V.heap.size:=(aa2.1 hA).1;exact(h.block A hl).trans hA
theorem Bl.ce(h:Bl V W){p}{v}(hA:V.cell? p=G v):W.cell? p=G v:=
 (h.cell (World.block_lt_of_cell? V p hA)).trans hA
theorem gl (w)(o):Bl w (w.alloc o):=Bl.eH.al o
theorem Jp (w)(o p:Obj):Bl w ((w.alloc o).alloc p):=(gl w o).al p
theorem bl3 (w)(o p q:Obj):Bl w (((w.alloc o).alloc p).alloc q):=(Jp w o p).al q
theorem eL (w:World)(o):(w.alloc o).heap[w.heap.size]?=G o:=heap_alloc_new w o
theorem BW (w:World)(o):(w.alloc o).drew.heap[w.heap.size]?=G o:=heap_alloc_new w o
theorem fh (w:World)(o)(h:n=w.heap.size):(w.alloc o).heap[n]?=G o:=by subst h;exact eL w o
theorem fK{x}(o)(h:w.heap[n]?=G x):(w.alloc o).heap[n]?=G x:=(heap_alloc_old w o n (aa2.1 h).1).trans h
abbrev Bk (W:World)(A:Nat)(t:TypeId)(cs:Array Value):Prop:=W.heap[A]?=G (.cells cs t)
theorem Bk.ce{cs}(h:Bk W A t cs)(i:Nat):W.cell? ⟨A,i,E⟩=cs[i]?:=ab1 W A i cs t (0,0) h
theorem Bk.all{cs}(h:Bk V A t cs)(i:Nat){v}(hv:cs[i]?=G v)(W)(hb:Bl V W):W.cell? ⟨A,i,E⟩=G v:=(Bk.ce (hb.bl h) i).trans hv
theorem eS {P:Program}{fn:Func}{p:Tmp}{ty:TypeId}(h:fn.results=#[.cell p ty])(tmps:Array Value)(w:World)(g:Nat)(t:TypeId)(cs:Array Value)(fr:Nat×Nat)(d:TypeDesc)
 (hp:tmps.getD p undef= .pointer (G ⟨g,0,E⟩)) (hg:w.heap[g]?=G (.cells cs t fr))
 (hu:P.underlying ty=G d) (hd:(match d with | .struct _ | .array _ _=>Q | _=>z)=Q) (hi:(P.info? ty).map (·.size)=G cs.size):
 (results fn tmps).run P w= .ok (.agg cs) w:=by
 have hp':tmps[p]?.getD undef= .pointer (G ⟨g,0,E⟩):=by simpa using hp
 simp[results,h,hp',asAddr,run_loadVar_row w g t ty cs fr d hg hu hd hi]
theorem pj {α:Type}(f:α->List Value)(sz:Nat)(hf:∀ x,(f x).length=sz):∀ (L:List α) (k j:Nat) (hk:k<L.length),j<sz->(L.flatMap f)[k*sz+j]?=(f L[k])[j]?
 | [],k,j,hk,_=>by simp at hk
 | x::r,0,j,_,hj=>by
   rw[bh,Nat.zero_mul,aZ,dH (by rw[hf];exact hj)];rfl
 | x::r,k+1,j,hk,hj=>by
   rw[bh,er (by rw[hf,bH];omega),hf,show(k+1)*sz+j - sz=k*sz+j by rw[bH];omega];exact pj f sz hf r k j iG hj
def Rw {α:Type}(f:α->List Value)(t:TypeId)(sz:Nat)(w:World)(b:Nat)(v:Value)(L:List α):Prop:=w.ownsRow b t sz v L.length (L.flatMap f)
section
variable {α:Type}{f:α->List Value}{t:TypeId}{sz b:Nat}{V W:World}{v:Value}{L:List α}
theorem Rw.nil:Rw f t sz W b aw ([]:List α):=ab6 _ _ _ _
theorem Rw.bl (h:Rw f t sz V b v L)(hb:Bl V W):Rw f t sz W b v L:=by
 exact abB
theorem Rw.iD (h:Rw f t sz W b v L):Rw f t sz W 0 v L:=by
 refine⟨h.1,?_⟩;rcases h.2 with h | ⟨g,cap,cur,hv,hg,r⟩
 ·exact .inl h
 ·exact .inr ⟨g,cap,cur,hv,aD _,r⟩
theorem Rw.form (h:Rw f t sz W b v L):∃ A cap,v= Z A L.length cap/\L.length<=cap/\cap<=9223372036854775807:=by
 rcases h.2 with⟨hv,hn⟩ | ⟨g,cap,cur,hv,hg,hh,hn,hm,r⟩
 ·exact⟨E,0,by rw[hv,hn],om,om⟩
 ·exact⟨G ⟨g,0,E⟩,cap,hv,hn,by simpa[maxLen] using hm⟩
theorem Rw.at (hf:∀ x,(f x).length=sz){A}(h:Rw f t sz W b (Z A n cap) L)(k:Nat)(hk:k<L.length):
 ∃ g,A=G ⟨g,0,E⟩/\b<=g/\g<W.heap.size/\∀ j,j<sz->W.cell? ⟨g,k*sz+j,E⟩=(f L[k])[j]?:=by
 rcases h.2 with⟨hv,hn⟩ | ⟨g,cap',cur,hv,hg,hh,hn,hm,hs,ht⟩
 ·omega
 ·injection hv with h1 h2 h3
  refine⟨g,h1,hg,(aa2.1 hh).1,λj hj=>?_⟩;rw[ab1 W g _ cur t (0,0) hh,<-pj f sz hf L k j hk hj,<-ht,bE,aA,cj]
  calc k*sz+j<k*sz+sz:=om
   _=(k+1)*sz:=by rw[bH];omega
   _<=L.length*sz:=bt _ hk
end
theorem Rw.qE {α:Type}{f:α->List Value}{L:List α}(h:Rw f t sz W b (Z E n c) L):L.length=0/\c=0:=by
 rcases h.2 with⟨hv,hn⟩ | ⟨g,cap,cur,hv,_⟩
 ·injection hv with _ _ h3;exact⟨hn,h3⟩
 ·injection hv with h1;cases h1
theorem Rw.cur {α:Type}{f:α->List Value}{L:List α}(h:Rw f t sz W b (Z (G ⟨g,0,E⟩) n c) L):∃ cur,Bk W g t cur/\cur.size=c*sz/\cur.toList.take (L.length*sz)=L.flatMap f:=by
 rcases h.2 with⟨hv,hn⟩ | ⟨g',cap,cur,hv,hg,hh,hl,hm,hs,ht⟩
 ·injection hv with h1;cases h1
 ·injection hv with h1 _ h2
  injection h1 with h1
  injection h1 with h1
  subst h1;subst h2;exact⟨cur,hh,hs,ht⟩
theorem Rw.vW {α:Type}{f:α->List Value}{c0 c1 c2 c3:α->Value}(hf:∀ x,f x=[c0 x,c1 x,c2 x,c3 x]){L:List α}{A}(h:Rw f t 4 V b (Z A n cap) L)(k:Nat)(hk:k<L.length):
 ∃ g,A=G ⟨g,0,E⟩/\b<=g/\g<V.heap.size/\(∀ W,Bl V W->W.cell? ⟨g,k*4,E⟩=G (c0 L[k]))/\(∀ W,Bl V W->W.cell? ⟨g,k*4+1,E⟩=G (c1 L[k]))/\(∀ W,Bl V W->W.cell? ⟨g,k*4+2,E⟩=G (c2 L[k]))/\(∀ W,Bl V W->W.cell? ⟨g,k*4+3,E⟩=G (c3 L[k])):=by
 obtain⟨g,hA,hb,hg,hc⟩:=h.at (λx=>by rw[hf];rfl) k hk;rw[hf] at hc;exact⟨g,hA,hb,hg,λW hW=>hW.ce (hc 0 dc),λW hW=>hW.ce (hc 1 dc),λW hW=>hW.ce (hc 2 dc),λW hW=>hW.ce (hc 3 dc)⟩
theorem Rw.Cm {α:Type}{f:α->List Value}{c0 c1:α->Value}(hf:∀ x,f x=[c0 x,c1 x]){L:List α}{A}(h:Rw f t 2 V b (Z A n cap) L)(k:Nat)(hk:k<L.length):
 ∃ g,A=G ⟨g,0,E⟩/\b<=g/\g<V.heap.size/\(∀ W,Bl V W->W.cell? ⟨g,k*2,E⟩=G (c0 L[k]))/\(∀ W,Bl V W->W.cell? ⟨g,k*2+1,E⟩=G (c1 L[k])):=by
 obtain⟨g,hA,hb,hg,hc⟩:=h.at (λx=>by rw[hf];rfl) k hk;rw[hf] at hc;exact⟨g,hA,hb,hg,λW hW=>hW.ce (hc 0 dc),λW hW=>hW.ce (hc 1 dc)⟩
theorem gB {α:Type}(f:α->List Value)(sz:Nat)(hf:∀ x,(f x).length=sz):∀ (L:List α) (k:Nat),(L.take k).flatMap f=(L.flatMap f).take (k*sz)/\(L.drop k).flatMap f=(L.flatMap f).drop (k*sz)
 | [],k=>by simp
 | x::r,0=>by simp
 | x::r,k+1=>by
   obtain⟨h1,h2⟩:=gB f sz hf r k;rw[cK,cn,bh,bh,h1,h2,bH,Nat.one_mul,Nat.add_comm (k*sz) sz,<-hf x,List.take_length_add_append,List.drop_length_add_append];exact⟨D,D⟩
structure Ty (t e:TypeId)(sz bytes:Nat):Prop where
 u:prog.underlying t=G (.slice e)
 i:∃ i au,prog.info? e=G i/\i.zero=G au/\i.size=sz/\i.bytes=bytes/\au.cells.size=sz
 pos:0<sz
 ZG:bytes<=1000
structure Sl (w:World)(sz:Nat)(A:Option Addr)(n c:Nat)(xs:List Value):Prop where
 len:xs.length=n*sz
 one:∀ u∈xs,u.oneCell'=Q
 nil:A=E->n=0/\c=0
 ce:∀ a,A=G a->∀ j u,xs[j]?=G u->w.cell? (a.add j)=G u
theorem Sl.bl{A}(h:Sl V sz A n c xs)(hb:Bl V W):Sl W sz A n c xs:=
 ⟨h.len,h.one,h.nil,λa ha j u hu=>hb.ce (h.ce a ha j u hu)⟩
theorem Rw.sl {α:Type}{f:α->List Value}{L:List α}{A}(ho:∀ x,∀ u∈f x,u.oneCell'=Q)(h:Rw f t sz V b (Z A n cap) L):
 Sl V sz A L.length cap (L.flatMap f):=by
 refine⟨h.1,λu hu=>?_,?_,?_⟩
 ·obtain⟨x,_,hx⟩:=List.mem_flatMap.1 hu;exact ho x u hx
 ·rcases h.2 with⟨hv,hn⟩ | ⟨g,c,cur,hv,_⟩
  ·injection hv with _ _ h3
   exact λ_=>⟨hn,h3⟩
  ·injection hv with h1
   intro h2;rw[h2] at h1;cases h1
 ·intro a ha j u hu;rcases h.2 with⟨hv,hn⟩ | ⟨g,c,cur,hv,hg,hh,hl,hm,hs,ht⟩
  ·injection hv with h1;rw[h1] at ha;cases ha
  ·injection hv with h1
   rw[h1] at ha;injection ha with ha
   rw[<-ha,show(⟨g,0,E⟩:Addr).add j=⟨g,j,E⟩ by unfold Addr.add;split<;>simp_all,Bk.ce hh j,<-cj];rw[<-ht] at hu;rw[bE] at hu
   split at hu
   ·exact hu
   ·cases hu
theorem Sl.pre{A}(h:Sl w sz A n c xs)(hk:k<=n):Sl w sz A k c (xs.take (k*sz)):=by
 refine⟨?_,λu hu=>h.one u (List.mem_of_mem_take hu),λhA=>⟨by have:=(h.nil hA).1;omega,(h.nil hA).2⟩,λa ha j u hu=>h.ce a ha j u ?_⟩
 ·rw[aK,h.len,cM (bt sz hk)]
 ·rw[bE] at hu
  split at hu
  ·exact hu
  ·cases hu
theorem Sl.VS{A}(h:Sl w sz A n c xs)(hk:k<=n):Sl w sz (A.map (·.add (k*sz))) (n - k) (c - k) (xs.drop (k*sz)):=by
 refine⟨?_,λu hu=>h.one u (List.mem_of_mem_drop hu),λhA=>?_,λa ha j u hu=>?_⟩
 ·rw[bm,h.len,Nat.sub_mul]
 ·cases A with
  | none=>have:=h.nil D;omega
  | some a=>cases hA
 ·cases A with
  | none=>cases ha
  | some a0=>
   injection ha with ha
   rw[<-ha,show(a0.add (k*sz)).add j=a0.add (k*sz+j) by unfold Addr.add;by_cases h1:k*sz=0<;>by_cases h2:j=0<;>simp[h1,h2,Nat.add_assoc]];exact h.ce a0 D _ u (by rw[dZ] at hu;exact hu)
theorem Sl.RG(h:Sl w sz (G ⟨g,0,E⟩) n c xs)(hk:k<=n)(hnc:n<=c):
 Sl w sz (if c=k then G ⟨g,0,E⟩ else G ⟨g,k*sz,E⟩) (n - k) (c - k) (xs.drop (k*sz)):=by
 have h1:=h.VS hk
 split
 ·have hn:n=k:=om;have h0:xs.drop (k*sz)=[]:=bR (by rw[h.len,hn];exact aB _);rw[h0] at h1 ⊢;exact⟨h1.len,h1.one,λh=>(by cases h),λa _ j u hu=>(by simp at hu)⟩
 ·have:(⟨g,0,E⟩:Addr).add (k*sz)=⟨g,k*sz,E⟩:=by unfold Addr.add;split<;>simp_all
  rw[<-this];exact h1
theorem fa{v}(h:W.ownsRow b t sz v n xs)(hb:b'<=b):W.ownsRow b' t sz v n xs:=by
 refine⟨h.1,?_⟩;rcases h.2 with h | ⟨g,cap,cur,hv,hg,r⟩
 ·exact .inl h
 ·exact .inr ⟨g,cap,cur,hv,aH hb hg,r⟩
theorem mP{cs}(h:Bk W g t cs)(hs:cs.size=sz)(h1:∀ u∈cs.toList,u.oneCell'=Q):Sl W sz (G ⟨g,0,E⟩) 1 1 cs.toList:=
 {len:=by simpa using hs
  one:=h1
  nil:=λh=>(by cases h)
  ce:=λa ha j u hu=>by
   injection ha with ha
   rw[<-ha,show(⟨g,0,E⟩:Addr).add j=⟨g,j,E⟩ by unfold Addr.add;split<;>simp_all,Bk.ce h j,<-cj];exact hu}
theorem uz{ops:Array Oper}{rest:List Oper}{o:Oper}{a:Act}{ar:Exit->Act->World->Prop}{e}(T:Ty t e sz bytes)(hgd:o.guard=E)(s x:Operand)
 (ho:o.op= .call {callee:=.builtin .append,args:=#[s,x],argTypes:=#[t,t]}) (base:Nat)
 {v:Value} {n:Nat} {xs:List Value} (hs:a.eval s=v) (hown:w.ownsRow base e sz v n xs) {A:Option Addr} {m c:Nat} {news:List Value} (hx:a.eval x= Z A m c) (hS:Sl w sz A m c news)
 (hn:n+m<=1000000) (hbase:base<=w.heap.size)
 (h:∀ v' w',w'.ownsRow base e sz v' (n+m) (xs++news)->(∀ V,base=V.heap.size->Bl V w->Bl V w')->wpList prog ops ar rest (a.put o.dst v') w'):wpList prog ops ar (o::rest) a w:=by
 obtain⟨i,au,hi,hz,h1,h2,h3⟩:=T.i;cases A with
 | none=>
  obtain⟨rfl,rfl⟩:=hS.nil D;have:news=[]:=aa6.1 (by simpa using hS.len);subst this;refine wpList_append_own_none hgd s x t ho base e i sz T.u hi v n xs hs hown hx (h _ _ (by simpa using hown) λV _ hb=>hb)
 | some ad=>
  have hb:(n+m)*bytes<=1000000*1000:=ch hn T.ZG;refine wpList_append_own _ hgd s x t ho base e i au sz bytes T.u hi hz h1 h2 h3 T.pos v n xs hs hown ad m c news hx hS.len (hS.ce ad D) hS.one eQ om hbase ?_;intro v' w' k1 k2 _;exact h v' w' k1 λV hV hb=>hb.gr k2 λk hk=>by rw[<-hV];exact(hown.lt k hk).1
theorem two{a b:Value}(h:∀ j,j<2->W.cell? ⟨g,k*2+j,E⟩=[a,b][j]?):W.cell? ⟨g,k*2,E⟩=G a/\W.cell? ⟨g,k*2+1,E⟩=G b:=⟨h 0 dc,h 1 dc⟩
theorem four{a b c d:Value}(h:∀ j,j<4->W.cell? ⟨g,k*4+j,E⟩=[a,b,c,d][j]?):
 W.cell? ⟨g,k*4,E⟩=G a/\W.cell? ⟨g,k*4+1,E⟩=G b/\W.cell? ⟨g,k*4+2,E⟩=G c/\W.cell? ⟨g,k*4+3,E⟩=G d:=⟨h 0 dc,h 1 dc,h 2 dc,h 3 dc⟩
theorem ni(h:Bk W A t #[c0,c1]):(∀ V,Bl W V->V.cell? ⟨A,0,E⟩=G c0)/\(∀ V,Bl W V->V.cell? ⟨A,1,E⟩=G c1):=
 ⟨h.all 0 D,h.all 1 D⟩
theorem ZM(h:Bk W A t #[c0,c1,c2]):(∀ V,Bl W V->V.cell? ⟨A,0,E⟩=G c0)/\(∀ V,Bl W V->V.cell? ⟨A,1,E⟩=G c1)/\(∀ V,Bl W V->V.cell? ⟨A,2,E⟩=G c2):=
 ⟨h.all 0 D,h.all 1 D,h.all 2 D⟩
theorem pw(h:Bk W A t #[c0,c1,c2,c3]):(∀ V,Bl W V->V.cell? ⟨A,0,E⟩=G c0)/\(∀ V,Bl W V->V.cell? ⟨A,1,E⟩=G c1)/\(∀ V,Bl W V->V.cell? ⟨A,2,E⟩=G c2)/\(∀ V,Bl W V->V.cell? ⟨A,3,E⟩=G c3):=
 ⟨h.all 0 D,h.all 1 D,h.all 2 D,h.all 3 D⟩
theorem wY(h:Bk W A t #[c0,c1,c2,c3,c4]):(∀ V,Bl W V->V.cell? ⟨A,0,E⟩=G c0)/\(∀ V,Bl W V->V.cell? ⟨A,1,E⟩=G c1)/\(∀ V,Bl W V->V.cell? ⟨A,2,E⟩=G c2)/\(∀ V,Bl W V->V.cell? ⟨A,3,E⟩=G c3)/\(∀ V,Bl W V->V.cell? ⟨A,4,E⟩=G c4):=
 ⟨h.all 0 D,h.all 1 D,h.all 2 D,h.all 3 D,h.all 4 D⟩
theorem jg(h:Bk W A t #[c0,c1,c2,c3,c4,c5]):(∀ V,Bl W V->V.cell? ⟨A,0,E⟩=G c0)/\(∀ V,Bl W V->V.cell? ⟨A,1,E⟩=G c1)/\(∀ V,Bl W V->V.cell? ⟨A,2,E⟩=G c2)/\(∀ V,Bl W V->V.cell? ⟨A,3,E⟩=G c3)/\(∀ V,Bl W V->V.cell? ⟨A,4,E⟩=G c4)/\(∀ V,Bl W V->V.cell? ⟨A,5,E⟩=G c5):=
 ⟨h.all 0 D,h.all 1 D,h.all 2 D,h.all 3 D,h.all 4 D,h.all 5 D⟩
theorem Rg(h:Bk W A t #[c0,c1,c2,c3,c4,c5,c6,c7,c8]):(∀ V,Bl W V->V.cell? ⟨A,0,E⟩=G c0)/\(∀ V,Bl W V->V.cell? ⟨A,1,E⟩=G c1)/\(∀ V,Bl W V->V.cell? ⟨A,2,E⟩=G c2)/\(∀ V,Bl W V->V.cell? ⟨A,3,E⟩=G c3)/\(∀ V,Bl W V->V.cell? ⟨A,4,E⟩=G c4)/\(∀ V,Bl W V->V.cell? ⟨A,5,E⟩=G c5)/\(∀ V,Bl W V->V.cell? ⟨A,6,E⟩=G c6)/\(∀ V,Bl W V->V.cell? ⟨A,7,E⟩=G c7)/\(∀ V,Bl W V->V.cell? ⟨A,8,E⟩=G c8):=
 ⟨h.all 0 D,h.all 1 D,h.all 2 D,h.all 3 D,h.all 4 D,h.all 5 D,h.all 6 D,h.all 7 D,h.all 8 D⟩
theorem ZN(h:Bk W A t #[c0,c1,c2,c3,c4,c5,c6,c7,c8,c9]):(∀ V,Bl W V->V.cell? ⟨A,0,E⟩=G c0)/\(∀ V,Bl W V->V.cell? ⟨A,1,E⟩=G c1)/\(∀ V,Bl W V->V.cell? ⟨A,2,E⟩=G c2)/\(∀ V,Bl W V->V.cell? ⟨A,3,E⟩=G c3)/\(∀ V,Bl W V->V.cell? ⟨A,4,E⟩=G c4)/\(∀ V,Bl W V->V.cell? ⟨A,5,E⟩=G c5)/\(∀ V,Bl W V->V.cell? ⟨A,6,E⟩=G c6)/\(∀ V,Bl W V->V.cell? ⟨A,7,E⟩=G c7)/\(∀ V,Bl W V->V.cell? ⟨A,8,E⟩=G c8)/\(∀ V,Bl W V->V.cell? ⟨A,9,E⟩=G c9):=
 ⟨h.all 0 D,h.all 1 D,h.all 2 D,h.all 3 D,h.all 4 D,h.all 5 D,h.all 6 D,h.all 7 D,h.all 8 D,h.all 9 D⟩
theorem mE(h:Bk W A t #[c0,c1,c2,c3,c4,c5,c6,c7,c8,c9,c10,c11,c12,c13,c14]):(∀ V,Bl W V->V.cell? ⟨A,0,E⟩=G c0)/\(∀ V,Bl W V->V.cell? ⟨A,1,E⟩=G c1)/\(∀ V,Bl W V->V.cell? ⟨A,2,E⟩=G c2)/\(∀ V,Bl W V->V.cell? ⟨A,3,E⟩=G c3)/\(∀ V,Bl W V->V.cell? ⟨A,4,E⟩=G c4)/\(∀ V,Bl W V->V.cell? ⟨A,5,E⟩=G c5)/\(∀ V,Bl W V->V.cell? ⟨A,6,E⟩=G c6)/\(∀ V,Bl W V->V.cell? ⟨A,7,E⟩=G c7)/\(∀ V,Bl W V->V.cell? ⟨A,8,E⟩=G c8)/\(∀ V,Bl W V->V.cell? ⟨A,9,E⟩=G c9)/\(∀ V,Bl W V->V.cell? ⟨A,10,E⟩=G c10)/\(∀ V,Bl W V->V.cell? ⟨A,11,E⟩=G c11)/\(∀ V,Bl W V->V.cell? ⟨A,12,E⟩=G c12)/\(∀ V,Bl W V->V.cell? ⟨A,13,E⟩=G c13)/\(∀ V,Bl W V->V.cell? ⟨A,14,E⟩=G c14):=
 ⟨h.all 0 D,h.all 1 D,h.all 2 D,h.all 3 D,h.all 4 D,h.all 5 D,h.all 6 D,h.all 7 D,h.all 8 D,h.all 9 D,h.all 10 D,h.all 11 D,h.all 12 D,h.all 13 D,h.all 14 D⟩
theorem n7 {p:Prop}(h:p:=by first | assumption | exact Bl.dr ms | exact Bl.eH.dr | exact Bl.al ms _ | exact Bl.ca ms ms):p:=h
theorem gC (w:World)(c:Array Value)(t:TypeId):∃ A V,A=w.heap.size/\V=w.alloc (.cells c t)/\Bk V A t c/\Hid (Bl w V)/\Hid (A=w.heap.size)/\Hid (V.heap.size=A+1):=
 ⟨_,_,D,D,eL _ _,H (gl _ _),H D,H sm⟩
theorem lj (w:World)(c:Array Value)(t:TypeId)(d:Array Value)(u:TypeId):∃ A V,A=w.heap.size/\V=(w.alloc (.cells c t)).alloc (.cells d u)/\Bk V A t c/\Bk V (A+1) u d/\Hid (Bl w V)/\Hid (A=w.heap.size)/\Hid (V.heap.size=A+2):=
 ⟨_,_,D,D,fK _ (eL _ _),fh _ _ sm,H (Jp _ _ _),H D,H sm⟩
theorem qh (w:World)(c:Array Value)(t:TypeId)(d:Array Value)(u:TypeId)(e:Array Value)(v:TypeId):∃ A V,A=w.heap.size/\V=((w.alloc (.cells c t)).alloc (.cells d u)).alloc (.cells e v)/\Bk V A t c/\Bk V (A+1) u d/\Bk V (A+2) v e/\Hid (Bl w V)/\Hid (A=w.heap.size)/\Hid (V.heap.size=A+3):=
 ⟨_,_,D,D,fK _ (fK _ (eL _ _)),fK _ (fh _ _ sm),fh _ _ sm,H (bl3 _ _ _ _),H D,H sm⟩
theorem iC (w:World)(c:Array Value)(t:TypeId):∃ V an,V=w.alloc (.cells c t)/\an=w.heap.size/\Bk V an t c/\Hid (Bl w V):=⟨_,_,D,D,eL _ _,H (gl _ _)⟩
theorem br (V):Bl V V:=Bl.eH
theorem Zc {t}{W}{A:Nat}{cs}(h:Bk W A t cs):W.cell? ⟨A,0,E⟩=cs[0]?/\W.cell? ⟨A,1,E⟩=cs[1]?:=⟨h.ce 0,h.ce 1⟩
theorem c_3 {t}{W}{A:Nat}{cs}(h:Bk W A t cs):W.cell? ⟨A,0,E⟩=cs[0]?/\W.cell? ⟨A,1,E⟩=cs[1]?/\W.cell? ⟨A,2,E⟩=cs[2]?:=⟨h.ce 0,h.ce 1,h.ce 2⟩
theorem ZH {t}{W}{A:Nat}{cs}(h:Bk W A t cs):W.cell? ⟨A,0,E⟩=cs[0]?/\W.cell? ⟨A,1,E⟩=cs[1]?/\W.cell? ⟨A,2,E⟩=cs[2]?/\W.cell? ⟨A,3,E⟩=cs[3]?:=⟨h.ce 0,h.ce 1,h.ce 2,h.ce 3⟩
theorem c_5 {t}{W}{A:Nat}{cs}(h:Bk W A t cs):W.cell? ⟨A,0,E⟩=cs[0]?/\W.cell? ⟨A,1,E⟩=cs[1]?/\W.cell? ⟨A,2,E⟩=cs[2]?/\W.cell? ⟨A,3,E⟩=cs[3]?/\W.cell? ⟨A,4,E⟩=cs[4]?:=⟨h.ce 0,h.ce 1,h.ce 2,h.ce 3,h.ce 4⟩
theorem rX {t}{W}{A:Nat}{cs}(h:Bk W A t cs):W.cell? ⟨A,0,E⟩=cs[0]?/\W.cell? ⟨A,1,E⟩=cs[1]?/\W.cell? ⟨A,2,E⟩=cs[2]?/\W.cell? ⟨A,3,E⟩=cs[3]?/\W.cell? ⟨A,4,E⟩=cs[4]?/\W.cell? ⟨A,5,E⟩=cs[5]?:=⟨h.ce 0,h.ce 1,h.ce 2,h.ce 3,h.ce 4,h.ce 5⟩
theorem c_9 {t}{W}{A:Nat}{cs}(h:Bk W A t cs):W.cell? ⟨A,0,E⟩=cs[0]?/\W.cell? ⟨A,1,E⟩=cs[1]?/\W.cell? ⟨A,2,E⟩=cs[2]?/\W.cell? ⟨A,3,E⟩=cs[3]?/\W.cell? ⟨A,4,E⟩=cs[4]?/\W.cell? ⟨A,5,E⟩=cs[5]?/\W.cell? ⟨A,6,E⟩=cs[6]?/\W.cell? ⟨A,7,E⟩=cs[7]?/\W.cell? ⟨A,8,E⟩=cs[8]?:=⟨h.ce 0,h.ce 1,h.ce 2,h.ce 3,h.ce 4,h.ce 5,h.ce 6,h.ce 7,h.ce 8⟩
