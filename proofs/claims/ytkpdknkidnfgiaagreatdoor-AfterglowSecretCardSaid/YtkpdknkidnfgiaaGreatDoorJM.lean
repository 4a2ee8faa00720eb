/- Lemmas for AfterglowSecret: what functions of the program return; no condition. -/
import Derived.Shelf.GgSortFunc.RowK
import Derived.Test.YtkpdknkidnfgiaaGreatDoorJL
set_option maxHeartbeats 0
set_option maxRecDepth 100000
set_option linter.unusedVariables false
open Go.Value renaming int->I,string->C,slice->Z
open Go.IntKind renaming i64->J,u8->U
open Option renaming none->E,some->G
open Bool renaming true->Q,false->z
open Go.Lib renaming hid->H
open Go.Proofs.Tryz
namespace Go.Proofs.YtkpdknkidnfgiaaGreatDoor
theorem jm{p:Prop}(h:p:=by
 have hL:L.take j=L:=bz om;have h1:=hd.hi;rw[hL] at h1 b3;unfold Rw;rw[<-h1,<-b3];refine⟨by rw[aK];simp;omega,.inr ⟨g,cap,_,D,hg,Bk.J3 _ _ _ _ b1,om,by unfold maxLen;omega,by rw[size_setMany];exact b2,t1⟩⟩):p:=h
theorem qS{p:Prop}(h:p:=by
 refine⟨⟨i,j+1,D,by go_num,om,om,HD.skip hj' (by rw[<-HX.out];exact HPX) (Bl.ca (Bl.eH.al _) hb2)⟩,?_⟩;simp[intOf];omega):p:=h
theorem qQ{p:Prop}(h:p:=by
 have HPX:=H hpx;clear hpx
 go_wp2_with (refine(HP _ ⟨x0,x1⟩ (mX HD.hg (Bl.eH.al _))).mono ?_;rintro e w2 ⟨rfl,hb2⟩;rw[HPX.out];have HW2:Bl wr w2:=Bl.ca (Bl.eH.al _) hb2;have HB7:=hb2.bl (eL _ _);have k0:=Bk.ce HB7 0;obtain⟨⟨u0,s0⟩,z0⟩:=HD.st (i*2) om w2 HW2;have k1:=Bk.ce HB7 1;obtain⟨⟨u1,s1⟩,z1⟩:=HD.st (i*2+1) om w2 HW2;clear HB7)
 have HK2:=HD.keep (λ_=>rfl) hj' hij (by rw[<-HN.out];exact hnc) (by rw[<-HX.out];exact HPX) HW2;rw[<-HX.out] at HK2;refine⟨⟨i+1,j+1,by go_num,by go_num,om,om,HK2⟩,?_⟩;simp[intOf];omega):p:=h
theorem rp{p:Prop}(h:p:=by
 have HK2:=HD.keep (λ_=>rfl) hj' hij (by rw[<-HN.out];exact hnc) (by rw[<-HX.out];exact HPX) HW2;rw[<-HX.out] at HK2;refine⟨⟨i+1,j+1,by go_num,by go_num,om,om,HK2⟩,?_⟩;simp[intOf];omega):p:=h
theorem qK{p:Prop}(h:p:=by
 have HPX:=H hpx;clear hpx
 go_wp2_with (refine(HP _ ⟨x0,x1⟩ (mX HD.hg (Bl.eH.al _))).mono ?_;rintro e w2 ⟨rfl,hb2⟩;rw[HPX.out])
 exact qS):p:=h
theorem rb{p:Prop}(h:p:=by
 have HPX:=H hpx;clear hpx
 go_wp2_with (refine(HP _ ⟨x0,x1,x2,x3⟩ (mX HD.hg (Bl.eH.al _))).mono ?_;rintro e w2 ⟨rfl,hb2⟩;rw[HPX.out])
 exact qS):p:=h
theorem nS{p:Prop}(h:p:=by
 obtain⟨cs,k,e⟩:=h.y;have:=k.ce j;rw[cO om] at this;simp only[this,bU]):p:=h
variable {lb:Array Value} {a:ByteArray} {xs:List Value} {X b c cap cl g i j k m n sz:Nat} {t ty:TypeId} {au:Value} {V W W' w wr:World}
namespace Tp
open Go Go.RowKit Go.Lib Go.Sort
def fm.cs (x:fm):List Value:=[I J x.a,I J x.b]
def Sub.cs (x:Sub):List Value:=[C x.w,C x.u,I J x.a,I J x.b]
def Sub.v (x:Sub):Value:=.agg #[C x.w,C x.u,I J x.a,I J x.b]
def gb.cs (x:gb):List Value:=[C x.u,I J x.t]
structure UC where
 u:ay
 A:Option Addr
 n:Nat
 c:Nat
def UC.cs (x:UC):List Value:=[C x.u,Z x.A x.n x.c]
instance:Inhabited fm:=⟨⟨0,0⟩⟩
instance:Inhabited eP:=⟨⟨0,0,0,0⟩⟩
instance:Inhabited fl:=⟨⟨0,default,0,0⟩⟩
instance:Inhabited Sub:=⟨⟨default,default,0,0⟩⟩
instance:Inhabited gb:=⟨⟨default,0⟩⟩
instance:Inhabited UC:=⟨⟨default,E,0,0⟩⟩
def sR {α:Type}(cl:Nat)(lb:Array Value)(enc:α->List Value)(p:α->Bool)(w:World)(g:Nat):Prop:=
 ∀ (W:World) (x:α),w.grownBy W (G g)->Calls prog cl (#[.agg (enc x).toArray]++lb) W λe w'=>e= .returned (.bool (p x))/\Bl W w'
theorem pO (w:World)(r):w.grownBy w r:=⟨D,D,D,aB _,λ_ _ _=>rfl⟩
theorem mX(h:w.grownBy W (G g))(hb:Bl W W'):w.grownBy W' (G g):=
 ⟨hb.os.trans h.os,hb.tape.trans h.tape,hb.output.trans h.output,aH h.size hb.size,λk hk hne=>(hb.block k (bK hk h.size)).trans (h.block k hk hne)⟩
theorem mJ(h:Bl w W)(r):w.grownBy W r:=⟨h.os,h.tape,h.output,h.size,λk hk _=>h.block k hk⟩
theorem tt(h:w.grownBy W (G g))(i:Nat)(u):w.grownBy (W.setCell ⟨g,i,E⟩ u) (G g):=
 ⟨h.os,h.tape,h.output,jv,λk hk hne=>(aa0 W _ u k (λe=>hne (by rw[e]))).trans (h.block k hk hne)⟩
theorem mC:∀ (vs:List Value) (o:Nat) (W:World),w.grownBy W (G g)->w.grownBy (W.setCells g o vs) (G g)
 | [],_,_,h=>h
 | v::r,o,_,h=>mC r (o+1) _ (tt h o v)
theorem sR.below {α:Type}{enc:α->List Value}{p:α->Bool}(h:sR cl lb enc p w g):PredBelow prog cl lb (λx=>.agg (enc x).toArray) p w:=λW x hb=>(h W x (mJ hb _)).mono λ_ _ k=>⟨k.1,Bl.ca hb k.2⟩
theorem Bk.set{cs}(h:Bk W g t cs)(i:Nat)(u):Bk (W.setCell ⟨g,i,E⟩ u) g t (cs.setIfInBounds i u):=by
 show(W.setCell ⟨g,i,E⟩ u).heap[g]?=_;rw[heap_setCell_same _ _ _ _ _ _ h]
theorem Bk.J3:∀ (vs:List Value) (o:Nat) (W:World) (cs:Array Value),Bk W g t cs->Bk (W.setCells g o vs) g t (setMany cs o vs)
 | [],_,_,_,h=>h
 | v::r,o,_,_,h=>Bk.J3 r (o+1) _ _ (h.set o v)
theorem Bk.fr{cs}(h:Bk W g t cs)(i:Nat):W.frozen? ⟨g,i,E⟩=z:=by
 unfold World.frozen?;rw[show W.heap[(⟨g,i,E⟩:Addr).block]?=G (.cells cs t) from h];simp
theorem mG:∀ (vs:List Value) (o:Nat) (cs:Array Value) (q:Nat),o+vs.length<=cs.size->(setMany cs o vs)[q]?=if o<=q/\q<o+vs.length then vs[q - o]? else cs[q]?
 | [],o,cs,q,_=>by rw[az sm];rfl
 | v::r,o,cs,q,h=>by
   simp only[bj] at h;rw[setMany,mG r (o+1) (cs.setIfInBounds o v) q eC,bW];by_cases h1:q=o
   ·subst h1;rw[az om,aA D,aA om,aA sm];simp
   ·by_cases h2:o<=q/\q<o+(r.length+1)
    ·rw[aA om,aA (by simpa using h2),show q - o=(q - (o+1))+1 by omega];rfl
    ·rw[az om,az om,az (by simpa using h2)]
theorem kG (vs:List Value)(o:Nat)(cs:Array Value)(h:o+vs.length<=cs.size):(setMany cs o vs).toList.take o=cs.toList.take o/\(setMany cs o vs).toList.take (o+vs.length)=cs.toList.take o++vs:=by
 constructor
 ·apply dh;intro q;rw[bE,bE]
  split
  ·rw[cj,cj,mG vs o cs q h,az om]
  ·rfl
 ·apply dh;intro q;have hl:(cs.toList.take o).length=o:=by rw[aK];simp;omega
  rw[bE];by_cases hq:q<o
  ·rw[aA om,dH om,bE,aA hq,cj,cj,mG vs o cs q h,az om]
  ·rw[er om,hl]
   split
   ·rw[cj,mG vs o cs q h,aA om]
   ·rw[b6 om]
structure ng {α:Type}(f:α->List Value)(p:α->Bool)(t:TypeId)(sz cap:Nat)(cur:Array Value)(L:List α)(w:World)(g:Nat)(i j:Nat)(wr:World):Prop where
 hi:i=((L.take j).filter λx=>!p x).length
 hb:∃ cs,Bk wr g t cs/\cs.size=cap*sz/\cs.toList.take (i*sz)=((L.take j).filter λx=>!p x).flatMap f/\∀ q,j*sz<=q->cs[q]?=cur[q]?
 hg:w.grownBy wr (G g)
theorem my {e:TypeId}{cs:Array Value}(hu:prog.underlying t=G (.slice e))(hz:∀ w,(zeroValue e).run prog w= .ok au w)(hzs:au.cells.size=sz)(hz1:∀ u∈au.cells.toList,u.oneCell'=Q)(h0:0<sz)
 (h:Bk w g e cs) (o n c:Nat) (hn:0<n) (ho:o+n*sz<=cs.size):
 ∃ vs,vs.length=n*sz/\∀ ty,(Builtin.clear_ #[t] ty #[Z (G ⟨g,o,E⟩) n c]).run prog w= .ok (.tuple #[]) (w.setCells g o vs):=by
 obtain⟨m,rfl⟩:∃ m,n=m+1:=⟨n - 1,om⟩;refine⟨(Builtin.zeroCells au.cells (m+1)).toList,by rw[Array.length_toList,size_zeroCells,hzs],λty=>?_⟩;have hl:(Builtin.zeroCells au.cells (m+1)).toList.length=(m+1)*sz:=by rw[Array.length_toList,size_zeroCells,hzs]
 have hst:=run_storeCells_cells (P:=prog) g o (Builtin.zeroCells au.cells (m+1)).toList 0 w (λj hj=>by
  rw[hl] at hj;rw[Bk.ce h,cO om];rfl) (λj _=>Bk.fr h _) (λv hv=>by
  simp[Builtin.zeroCells] at hv;obtain⟨k,_,rfl⟩:=hv;have hk:k % au.cells.size<au.cells.size:=cY _ om;rw[ab0 au.cells _ hk];exact hz1 _ sm)
 simp only[dA] at hst;simp[Builtin.clear_,run_underlying hu,hz,hst]
theorem ng.skip {α:Type}{f:α->List Value}{p:α->Bool}{cur}{L:List α}(h:ng f p t sz cap cur L w g i j wr)(hj:j<L.length)(hp:p L[j]=Q)(hb:Bl wr W):ng f p t sz cap cur L w g i (j+1) W:=by
 have e:(L.take (j+1)).filter (λx=>!p x)=(L.take j).filter (λx=>!p x):=by
  rw[aL hj,bF,bQ (by simp[hp]),dJ,aY]
 obtain⟨cs,h1,h2,h3,h4⟩:=h.hb;refine⟨by rw[e];exact h.hi,⟨cs,hb.bl h1,h2,by rw[e];exact h3,λq hq=>h4 q (by rw[bH] at hq;omega)⟩,mX h.hg hb⟩
theorem ng.keep {α:Type}{f:α->List Value}{p:α->Bool}{cur}{L:List α}(h:ng f p t sz cap cur L w g i j wr)(hf:∀ x,(f x).length=sz)(hj:j<L.length)(hij:i<j)(hc:L.length<=cap)(hp:p L[j]=z)(hb:Bl wr W):
 ng f p t sz cap cur L w g (i+1) (j+1) (W.setCells g (i*sz) (f L[j])):=by
 have e:(L.take (j+1)).filter (λx=>!p x)=(L.take j).filter (λx=>!p x)++[L[j]]:=by
  rw[aL hj,bF,bS (by simp[hp]),dJ]
 obtain⟨cs,h1,h2,h3,h4⟩:=h.hb;have hl:i*sz+(f L[j]).length=(i+1)*sz:=by rw[hf,bH];omega
 have hle:(i+1)*sz<=cs.size:=by rw[h2];exact bt _ om
 obtain⟨k1,k2⟩:=kG (f L[j]) (i*sz) cs (by rw[hl];exact hle);refine⟨by rw[e,aU,<-h.hi];rfl,⟨_,Bk.J3 _ _ _ _ (hb.bl h1),by rw[size_setMany];exact h2,?_,λq hq=>?_⟩,mC _ _ _ (mX h.hg hb)⟩
 ·rw[<-hl,k2,h3,e,bB];simp
 ·have hq2:(i+1)*sz<=q:=aH (bt sz om) hq;rw[mG _ _ _ _ (by rw[hl];exact hle),az (by rw[hl];omega)];exact h4 q (by rw[bH] at hq;omega)
theorem El {α:Type}(p:α->Bool):∀ (L:List α) (h:gU p L<L.length),p (L[gU p L])=Q/\(L.take (gU p L)).filter (λx=>!p x)=L.take (gU p L)
 | [],h=>by simp at h
 | x::r,h=>by
   unfold gU at h ⊢;by_cases hx:p x=Q
   ·simp[hx]
   ·simp only[hx,dw,if_false] at h ⊢;obtain⟨h1,h2⟩:=El p r fc;exact⟨h1,by rw[cK,bS aaA,h2]⟩
theorem Em {α:Type}(p:α->Bool):∀ (L:List α),¬gU p L<L.length->L.filter (λx=>!p x)=L
 | [],_=>rfl
 | x::r,h=>by
   unfold gU at h;by_cases hx:p x=Q
   ·simp[hx] at h
   ·simp only[hx,dw,if_false,bj] at h;rw[bS aaA,Em p r om]
theorem ng.first {α:Type}{f:α->List Value}{p:α->Bool}{cur}{L:List α}(hh:Bk w g t cur)(hs:cur.size=cap*sz)(ht:cur.toList.take (L.length*sz)=L.flatMap f)(hf:∀ x,(f x).length=sz)(hb:Bl w W)(hk:gU p L<L.length):
 ng f p t sz cap cur L w g (gU p L) (gU p L+1) W:=by
 obtain⟨h1,h2⟩:=El p L hk;have e:(L.take (gU p L+1)).filter (λx=>!p x)=L.take (gU p L):=by
  rw[aL hk,bF,h2,bQ (by simp[h1]),dJ,aY]
 refine⟨by rw[e,aK];omega,⟨cur,hb.bl hh,hs,?_,λq _=>rfl⟩,mJ hb _⟩;rw[e,(gB f sz hf L _).1,<-ht,du,cM (bt sz om)]
theorem ng.ce {α:Type}{f:α->List Value}{p:α->Bool}{cur}{L:List α}(h:ng f p t sz cap cur L w g i j wr)(ht:cur.toList.take (L.length*sz)=L.flatMap f)(hf:∀ x,(f x).length=sz)(hj:j<L.length)(k:Nat)(hk:k<sz){v}(hv:(f L[j])[k]?=G v)(W)(hW:Bl wr W):W.cell? ⟨g,j*sz+k,E⟩=G v:=by
 obtain⟨cs,h1,h2,h3,h4⟩:=h.hb;rw[Bk.ce (hW.bl h1),h4 _ om,<-hv,<-pj f sz hf L j k hj hk,<-ht,bE,aA,cj]
 calc j*sz+k<j*sz+sz:=om
  _=(j+1)*sz:=by rw[bH];omega
  _<=L.length*sz:=bt _ hj
theorem ng.st {α:Type}{f:α->List Value}{p:α->Bool}{cur}{L:List α}(h:ng f p t sz cap cur L w g i j wr)(q:Nat)(hq:q<cap*sz)(W)(hW:Bl wr W):(∃ u,W.cell? ⟨g,q,E⟩=G u)/\W.frozen? ⟨g,q,E⟩=z:=by
 obtain⟨cs,h1,h2,h3,h4⟩:=h.hb;have:=hW.bl h1;exact⟨⟨_,by rw[Bk.ce this,cO om]⟩,Bk.fr this q⟩
theorem zP:(∀ (p:eP->Bool) {cl:Nat} {lb:Array Value} (eg:∀ args w,(callFunc cl args).run prog w= .ok (.enter cl args) w) {b:Nat} {v:Value} {L:List eP} (w:World) (h:Rw eP.cs 112 4 w b v L) (hp0:PredBelow prog cl lb (λx=>.agg (eP.cs x).toArray) p w) (hp:∀ g,v.ownBlock=G g->sR cl lb eP.cs p w g) (hn:L.length<=100000),Calls prog 269 #[v,.func (.func cl) #[] lb] w λe w'=>∃ v',e= .returned v'/\Rw eP.cs 112 4 w' b v' (L.filter λx=>!p x)/\w.grownBy w' v.ownBlock/\v'.ownBlock=v.ownBlock)/\
 (∀ (p:fl->Bool) {cl:Nat} {lb:Array Value} (eg:∀ args w,(callFunc cl args).run prog w= .ok (.enter cl args) w) {b:Nat} {v:Value} {L:List fl} (w:World) (h:Rw fl.cs 289 4 w b v L) (hp0:PredBelow prog cl lb (λx=>.agg (fl.cs x).toArray) p w) (hp:∀ g,v.ownBlock=G g->sR cl lb fl.cs p w g) (hn:L.length<=100000),Calls prog 379 #[v,.func (.func cl) #[] lb] w λe w'=>∃ v',e= .returned v'/\Rw fl.cs 289 4 w' b v' (L.filter λx=>!p x)/\w.grownBy w' v.ownBlock/\v'.ownBlock=v.ownBlock)/\
 (∀ (p:Sub->Bool) {cl:Nat} {lb:Array Value} (eg:∀ args w,(callFunc cl args).run prog w= .ok (.enter cl args) w) {b:Nat} {v:Value} {L:List Sub} (w:World) (h:Rw Sub.cs 293 4 w b v L) (hp0:PredBelow prog cl lb (λx=>.agg (Sub.cs x).toArray) p w) (hp:∀ g,v.ownBlock=G g->sR cl lb Sub.cs p w g) (hn:L.length<=100000),Calls prog 271 #[v,.func (.func cl) #[] lb] w λe w'=>∃ v',e= .returned v'/\Rw Sub.cs 293 4 w' b v' (L.filter λx=>!p x)/\w.grownBy w' v.ownBlock/\v'.ownBlock=v.ownBlock)/\
 (∀ (p:gb->Bool) {cl:Nat} {lb:Array Value} (eg:∀ args w,(callFunc cl args).run prog w= .ok (.enter cl args) w) {b:Nat} {v:Value} {L:List gb} (w:World) (h:Rw gb.cs 244 2 w b v L) (hp0:PredBelow prog cl lb (λx=>.agg (gb.cs x).toArray) p w) (hp:∀ g,v.ownBlock=G g->sR cl lb gb.cs p w g) (hn:L.length<=100000),Calls prog 335 #[v,.func (.func cl) #[] lb] w λe w'=>∃ v',e= .returned v'/\Rw gb.cs 244 2 w' b v' (L.filter λx=>!p x)/\w.grownBy w' v.ownBlock/\v'.ownBlock=v.ownBlock)/\
 (∀ (p:fm->Bool) {cl:Nat} {lb:Array Value} (eg:∀ args w,(callFunc cl args).run prog w= .ok (.enter cl args) w) {b:Nat} {v:Value} {L:List fm} (w:World) (h:Rw fm.cs 110 2 w b v L) (hp0:PredBelow prog cl lb (λx=>.agg (fm.cs x).toArray) p w) (hp:∀ g,v.ownBlock=G g->sR cl lb fm.cs p w g) (hn:L.length<=100000),Calls prog 249 #[v,.func (.func cl) #[] lb] w λe w'=>∃ v',e= .returned v'/\Rw fm.cs 110 2 w' b v' (L.filter λx=>!p x)/\w.grownBy w' v.ownBlock/\v'.ownBlock=v.ownBlock)/\
 (∀ (p:UC->Bool) {cl:Nat} {lb:Array Value} (eg:∀ args w,(callFunc cl args).run prog w= .ok (.enter cl args) w) {b:Nat} {v:Value} {L:List UC} (w:World) (h:Rw UC.cs 282 2 w b v L) (hp0:PredBelow prog cl lb (λx=>.agg (UC.cs x).toArray) p w) (hp:∀ g,v.ownBlock=G g->sR cl lb UC.cs p w g) (hn:L.length<=100000),Calls prog 333 #[v,.func (.func cl) #[] lb] w λe w'=>∃ v',e= .returned v'/\Rw UC.cs 282 2 w' b v' (L.filter λx=>!p x)/\w.grownBy w' v.ownBlock/\v'.ownBlock=v.ownBlock):=by
 refine⟨?_,?_,?_,?_,?_,?_⟩
 all_goals intro p cl lb eg b v L w h hp0 hp hn
 have tg:Tg 0:=⟨⟩;rotate_left;have tg:Tg 1:=⟨⟩;rotate_left;have tg:Tg 2:=⟨⟩;rotate_left;have tg:Tg 3:=⟨⟩;rotate_left;have tg:Tg 4:=⟨⟩;rotate_left;have tg:Tg 5:=⟨⟩;rotate_left;have IX:=ixfStay (λ_=>rfl) p eg w hp0 h hn;rotate_left;have IX:=ixfSess (λ_=>rfl) p eg w hp0 h hn;rotate_left;have IX:=ixfSubs (λ_=>rfl) p eg w hp0 h hn;rotate_left;have IX:=ixfTomb (λ_=>rfl) p eg w hp0 h hn;rotate_left;have IX:=ixfSpan (λ_=>rfl) p eg w hp0 h hn;rotate_left;have IX:=ixfUser (λ_=>rfl) p eg w hp0 h hn;rotate_left
 all_goals
  obtain⟨A,cap,rfl,hnc,hcap⟩:=h.form;have HR:=H h;obtain⟨n,hnn,HN⟩:=nh L.length;rw[<-hnn] at hn hnc IX ⊢;by_cases hk:gU p L<L.length
  ·first
    | have _:Tg 1:=tg
      obtain⟨g,rfl,hg,hgl,_⟩:=h.at (f:=fl.cs) (λ_=>rfl) _ hk
    | have _:Tg 2:=tg
      obtain⟨g,rfl,hg,hgl,_⟩:=h.at (f:=Sub.cs) (λ_=>rfl) _ hk
    | have _:Tg 3:=tg
      obtain⟨g,rfl,hg,hgl,_⟩:=h.at (f:=gb.cs) (λ_=>rfl) _ hk
    | have _:Tg 4:=tg
      obtain⟨g,rfl,hg,hgl,_⟩:=h.at (f:=fm.cs) (λ_=>rfl) _ hk
    | have _:Tg 5:=tg
      obtain⟨g,rfl,hg,hgl,_⟩:=h.at (f:=UC.cs) (λ_=>rfl) _ hk
    | obtain⟨g,rfl,hg,hgl,_⟩:=h.at (f:=eP.cs) (λ_=>rfl) _ hk
   obtain⟨cur,hh,hs,ht⟩:=Rw.cur h;have HP:=H (hp g D)
   first
    | have _:Tg 1:=tg
      have HF:=H (λW (hb:Bl w W)=>ng.first (f:=fl.cs) (p:=p) hh hs ht (λ_=>rfl) hb hk)
    | have _:Tg 2:=tg
      have HF:=H (λW (hb:Bl w W)=>ng.first (f:=Sub.cs) (p:=p) hh hs ht (λ_=>rfl) hb hk)
    | have _:Tg 3:=tg
      have HF:=H (λW (hb:Bl w W)=>ng.first (f:=gb.cs) (p:=p) hh hs ht (λ_=>rfl) hb hk)
    | have _:Tg 4:=tg
      have HF:=H (λW (hb:Bl w W)=>ng.first (f:=fm.cs) (p:=p) hh hs ht (λ_=>rfl) hb hk)
    | have _:Tg 5:=tg
      have HF:=H (λW (hb:Bl w W)=>ng.first (f:=UC.cs) (p:=p) hh hs ht (λ_=>rfl) hb hk)
    | have HF:=H (λW (hb:Bl w W)=>ng.first (f:=eP.cs) (p:=p) hh hs ht (λ_=>rfl) hb hk)
   have HT:=H ht;have hI:lH p L=(gU p L:Nat):=by unfold lH;rw[aA hk]
   rw[hI] at IX;rw[<-hnn] at hk;generalize gU p L=k at*;replace IX:=H IX;clear h hp hnn hh hs ht hI;have e1:((k:Int)== -1)=z:=by rw[aX];omega
   have e2:IntKind.i64.wrap ((k:Int)+1)=(k:Int)+1:=jh om
   first
    | have _:Tg 1:=tg
      go_enter func379,ntmps379
      go_wp2_with (go_at_call 322;refine qx IX λw1 hb1=>?_)
    | have _:Tg 2:=tg
      go_enter func271,ntmps271
      go_wp2_with (go_at_call 325;refine qx IX λw1 hb1=>?_)
    | have _:Tg 3:=tg
      go_enter func335,ntmps335
      go_wp2_with (go_at_call 218;refine qx IX λw1 hb1=>?_)
    | have _:Tg 4:=tg
      go_enter func249,ntmps249
      go_wp2_with (go_at_call 316;refine qx IX λw1 hb1=>?_)
    | have _:Tg 5:=tg
      go_enter func333,ntmps333
      go_wp2_with (go_at_call 383;refine qx IX λw1 hb1=>?_)
    | go_enter func269,ntmps269
      go_wp2_with (go_at_call 206;refine qx IX λw1 hb1=>?_)
   have HI:=H (HF w1 hb1)
   first
    | have _:Tg 1:=tg
      go_loopw [5,6] (λs5 s6 wr=>∃ i j:Nat,s5= I J i/\s6= I J j/\i<j/\j<=n/\ng fl.cs p 289 4 cap cur L w g i j wr) (λ_ s6 _=>n - (intOf s6).toNat)
    | have _:Tg 2:=tg
      go_loopw [5,6] (λs5 s6 wr=>∃ i j:Nat,s5= I J i/\s6= I J j/\i<j/\j<=n/\ng Sub.cs p 293 4 cap cur L w g i j wr) (λ_ s6 _=>n - (intOf s6).toNat)
    | have _:Tg 3:=tg
      go_loopw [5,6] (λs5 s6 wr=>∃ i j:Nat,s5= I J i/\s6= I J j/\i<j/\j<=n/\ng gb.cs p 244 2 cap cur L w g i j wr) (λ_ s6 _=>n - (intOf s6).toNat)
    | have _:Tg 4:=tg
      go_loopw [5,6] (λs5 s6 wr=>∃ i j:Nat,s5= I J i/\s6= I J j/\i<j/\j<=n/\ng fm.cs p 110 2 cap cur L w g i j wr) (λ_ s6 _=>n - (intOf s6).toNat)
    | have _:Tg 5:=tg
      go_loopw [5,6] (λs5 s6 wr=>∃ i j:Nat,s5= I J i/\s6= I J j/\i<j/\j<=n/\ng UC.cs p 282 2 cap cur L w g i j wr) (λ_ s6 _=>n - (intOf s6).toNat)
    | go_loopw [5,6] (λs5 s6 wr=>∃ i j:Nat,s5= I J i/\s6= I J j/\i<j/\j<=n/\ng eP.cs p 112 4 cap cur L w g i j wr) (λ_ s6 _=>n - (intOf s6).toNat)
   case atStart=>exact⟨k,k+1,D,by first | go_num | (rw[e2];go_num),om,om,HI⟩
   case round=>
    obtain⟨i,j,rfl,rfl,hij,hj,hd⟩:=hrel;by_cases hlt:j<n
    ·have hj':j<L.length:=by rw[<-HN.out];exact hlt
     have HD:=H hd;obtain⟨x,hx,HX⟩:=nh (L[j])
     first
      | have _:Tg 1:=tg
        have c0:∀ W,Bl wr W->W.cell? ⟨g,j*4,E⟩=G _:=hd.ce HT (λ_=>rfl) hj' 0 dc (v:=I J x.n) fj;have c1:=hd.ce HT (λ_=>rfl) hj' 1 dc (v:=C x.u) fj;have c2:=hd.ce HT (λ_=>rfl) hj' 2 dc (v:=I J x.st) fj;have c3:=hd.ce HT (λ_=>rfl) hj' 3 dc (v:=I J x.a) fj
      | have _:Tg 2:=tg
        have c0:∀ W,Bl wr W->W.cell? ⟨g,j*4,E⟩=G _:=hd.ce HT (λ_=>rfl) hj' 0 dc (v:=C x.w) fj;have c1:=hd.ce HT (λ_=>rfl) hj' 1 dc (v:=C x.u) fj;have c2:=hd.ce HT (λ_=>rfl) hj' 2 dc (v:=I J x.a) fj;have c3:=hd.ce HT (λ_=>rfl) hj' 3 dc (v:=I J x.b) fj
      | have _:Tg 3:=tg
        have c0:∀ W,Bl wr W->W.cell? ⟨g,j*2,E⟩=G _:=hd.ce HT (λ_=>rfl) hj' 0 dc (v:=C x.u) fj;have c1:=hd.ce HT (λ_=>rfl) hj' 1 dc (v:=I J x.t) fj
      | have _:Tg 4:=tg
        have c0:∀ W,Bl wr W->W.cell? ⟨g,j*2,E⟩=G _:=hd.ce HT (λ_=>rfl) hj' 0 dc (v:=I J x.a) fj;have c1:=hd.ce HT (λ_=>rfl) hj' 1 dc (v:=I J x.b) fj
      | have _:Tg 5:=tg
        have c0:∀ W,Bl wr W->W.cell? ⟨g,j*2,E⟩=G _:=hd.ce HT (λ_=>rfl) hj' 0 dc (v:=C x.u) fj;have c1:=hd.ce HT (λ_=>rfl) hj' 1 dc (v:=Z x.A x.n x.c) fj
      | have c0:∀ W,Bl wr W->W.cell? ⟨g,j*4,E⟩=G _:=hd.ce HT (λ_=>rfl) hj' 0 dc (v:=I J x.a) fj;have c1:=hd.ce HT (λ_=>rfl) hj' 1 dc (v:=I J x.b) fj;have c2:=hd.ce HT (λ_=>rfl) hj' 2 dc (v:=I J x.n) fj;have c3:=hd.ce HT (λ_=>rfl) hj' 3 dc (v:=I J x.st) fj
     clear hd
     first
      | have _:Tg 3:=tg
        obtain⟨x0,x1⟩:=x
      | have _:Tg 4:=tg
        obtain⟨x0,x1⟩:=x
      | obtain⟨x0,x1,x2,x3⟩:=x
     obtain⟨i1,i2⟩:=ln (k:=j) (m:=n) om;have i3:(0:Int)<=(i:Int):=om;have i4:(i:Int)<n:=om;have hb0:=br wr
     first
      | have _:Tg 3:=tg
        cases hpx:p ⟨x0,x1⟩ with
        | true=>
         exact qK
        | false=>
         exact qQ
      | have _:Tg 4:=tg
        cases hpx:p ⟨x0,x1⟩ with
        | true=>
         exact qK
        | false=>
         exact qQ
      | have _:Tg 5:=tg
        cases hpx:p ⟨x0,x1,x2,x3⟩ with
        | true=>
         exact rb
        | false=>
         have HPX:=H hpx;clear hpx
         go_wp2_with (refine qx (HP _ ⟨x0,x1,x2,x3⟩ (mX HD.hg (Bl.eH.al _))) λw2 hb2=>?_;rw[HPX.out];have HW2:Bl wr w2:=Bl.ca (Bl.eH.al _) hb2;have HB7:=hb2.bl (eL _ _);have k0:=Bk.ce HB7 0;obtain⟨⟨u0,s0⟩,z0⟩:=HD.st (i*2) om w2 HW2;have k1:=Bk.ce HB7 1;obtain⟨⟨u1,s1⟩,z1⟩:=HD.st (i*2+1) om w2 HW2;clear HB7)
         exact rp
      | cases hpx:p ⟨x0,x1,x2,x3⟩ with
        | true=>
         exact rb
        | false=>
         have HPX:=H hpx;clear hpx
         go_wp2_with (refine qx (HP _ ⟨x0,x1,x2,x3⟩ (mX HD.hg (Bl.eH.al _))) λw2 hb2=>?_;rw[HPX.out];have HW2:Bl wr w2:=Bl.ca (Bl.eH.al _) hb2;have HB7:=hb2.bl (eL _ _);have k0:=Bk.ce HB7 0;obtain⟨⟨u0,s0⟩,z0⟩:=HD.st (i*4) om w2 HW2;have k1:=Bk.ce HB7 1;obtain⟨⟨u1,s1⟩,z1⟩:=HD.st (i*4+1) om w2 HW2;have k2:=Bk.ce HB7 2;obtain⟨⟨u2,s2⟩,z2⟩:=HD.st (i*4+2) om w2 HW2;have k3:=Bk.ce HB7 3;obtain⟨⟨u3,s3⟩,z3⟩:=HD.st (i*4+3) om w2 HW2;clear HB7)
         exact rp
    ·obtain rfl:j=n:=om;have HD:=H hd;obtain⟨cs,b1,b2,b3,_⟩:=hd.hb;have hjn:j=L.length:=HN.out
     first
      | have _:Tg 1:=tg
        obtain⟨vs,v1,v2⟩:=my (sz:=4) underlying126 zeroValue289 D iI dc b1 (i*4) (j - i) (cap - i) om om;obtain⟨t1,_⟩:=kG vs (i*4) cs om;have HFIN:Rw fl.cs 289 4 (wr.setCells g (i*4) vs) b (Z (G ⟨g,0,E⟩) i cap) (L.filter λx=>!p x):=by
         exact jm
        have HGR:=mC vs (i*4) _ hd.hg
      | have _:Tg 2:=tg
        obtain⟨vs,v1,v2⟩:=my (sz:=4) underlying128 zeroValue293 D iI dc b1 (i*4) (j - i) (cap - i) om om;obtain⟨t1,_⟩:=kG vs (i*4) cs om;have HFIN:Rw Sub.cs 293 4 (wr.setCells g (i*4) vs) b (Z (G ⟨g,0,E⟩) i cap) (L.filter λx=>!p x):=by
         exact jm
        have HGR:=mC vs (i*4) _ hd.hg
      | have _:Tg 3:=tg
        obtain⟨vs,v1,v2⟩:=my (sz:=2) underlying129 zeroValue244 D iI dc b1 (i*2) (j - i) (cap - i) om om;obtain⟨t1,_⟩:=kG vs (i*2) cs om;have HFIN:Rw gb.cs 244 2 (wr.setCells g (i*2) vs) b (Z (G ⟨g,0,E⟩) i cap) (L.filter λx=>!p x):=by
         exact jm
        have HGR:=mC vs (i*2) _ hd.hg
      | have _:Tg 4:=tg
        obtain⟨vs,v1,v2⟩:=my (sz:=2) underlying223 zeroValue110 D iI dc b1 (i*2) (j - i) (cap - i) om om;obtain⟨t1,_⟩:=kG vs (i*2) cs om;have HFIN:Rw fm.cs 110 2 (wr.setCells g (i*2) vs) b (Z (G ⟨g,0,E⟩) i cap) (L.filter λx=>!p x):=by
         exact jm
        have HGR:=mC vs (i*2) _ hd.hg
      | have _:Tg 5:=tg
        obtain⟨vs,v1,v2⟩:=my (sz:=2) underlying127 zeroValue282 D iI dc b1 (i*2) (j - i) (cap - i) om om;obtain⟨t1,_⟩:=kG vs (i*2) cs om;have HFIN:Rw UC.cs 282 2 (wr.setCells g (i*2) vs) b (Z (G ⟨g,0,E⟩) i cap) (L.filter λx=>!p x):=by
         exact jm
        have HGR:=mC vs (i*2) _ hd.hg
      | obtain⟨vs,v1,v2⟩:=my (sz:=4) underlying84 zeroValue112 D iI dc b1 (i*4) (j - i) (cap - i) om om
        obtain⟨t1,_⟩:=kG vs (i*4) cs om;have HFIN:Rw eP.cs 112 4 (wr.setCells g (i*4) vs) b (Z (G ⟨g,0,E⟩) i cap) (L.filter λx=>!p x):=by
         exact jm
        have HGR:=mC vs (i*4) _ hd.hg
     replace HFIN:=H HFIN;replace HGR:=H HGR;clear hd b3 hjn;have i1:¬(j:Int)<j:=om;have i2:(0:Int)<=(i:Int):=om;have i3:(i:Int)<=j:=om;have i4:(i:Int)<=cap:=om;have i5:¬cap=i:=om
     go_wp2_with fail
     go_ret;exact⟨_,D,HFIN,HGR,D⟩
  ·have hI:lH p L= -1:=by unfold lH;rw[az hk]
   rw[hI] at IX;replace IX:=H IX;rw[Em p L hk];clear h hp hnn hI hk
   first
    | have _:Tg 1:=tg
      go_enter func379,ntmps379
      go_wp2_with (go_at_call 322;refine qx IX λw1 hb1=>?_)
    | have _:Tg 2:=tg
      go_enter func271,ntmps271
      go_wp2_with (go_at_call 325;refine qx IX λw1 hb1=>?_)
    | have _:Tg 3:=tg
      go_enter func335,ntmps335
      go_wp2_with (go_at_call 218;refine qx IX λw1 hb1=>?_)
    | have _:Tg 4:=tg
      go_enter func249,ntmps249
      go_wp2_with (go_at_call 316;refine qx IX λw1 hb1=>?_)
    | have _:Tg 5:=tg
      go_enter func333,ntmps333
      go_wp2_with (go_at_call 383;refine qx IX λw1 hb1=>?_)
    | go_enter func269,ntmps269
      go_wp2_with (go_at_call 206;refine qx IX λw1 hb1=>?_)
   go_ret;have h9:=HR.bl hb1;rw[<-HN.out] at h9;exact⟨_,D,h9,mJ hb1 _,D⟩
end Tp
namespace Tp
open Go Go.RowKit Go.Lib
theorem wJ:∀ (L:List fl) (e:fl),oC L e=L.take (gU (λx=>decide (x.n>e.n)) L)++e::L.drop (gU (λx=>decide (x.n>e.n)) L)
 | [],_=>rfl
 | x::r,e=>by
   unfold oC gU;by_cases h:x.n>e.n
   ·simp[h]
   ·rw[az h,az fc,wJ r e];rfl
theorem Sl.VR{A}(h:Sl w sz A n c xs)(hk:k<=n)(hnc:n<=c):
 ∃ AQ:Option Addr,(if c=k then A else A.map (λx=>x.add (k*sz)))=AQ/\Sl w sz AQ (n - k) (c - k) (xs.drop (k*sz)):=by
 refine⟨_,D,?_⟩;have h1:=h.VS hk
 split
 ·have hn:n=k:=om;have h0:xs.drop (k*sz)=[]:=bR (by rw[h.len,hn];exact aB _);rw[h0] at h1 ⊢;exact⟨h1.len,h1.one,λ_=>om,λa _ j u hu=>(by simp at hu)⟩
 ·exact h1
theorem BH {α:Type}{f:α->List Value}(hf:∀ x,(f x).length=sz){L:List α}{e:α}(hk:k<=L.length):(L.flatMap f).take (k*sz)++(f e++(L.flatMap f).drop (k*sz))=(L.take k++e::L.drop k).flatMap f/\k+1+(L.length - k)=(L.take k++e::L.drop k).length:=by
 obtain⟨h1,h2⟩:=gB f sz hf L k;rw[bB,bh,h1,h2];refine⟨D,?_⟩;simp;omega
def ZA {α:Type}(cl:Nat)(lb:Array Value)(enc:α->List Value)(p:α->Bool)(V:World):Prop:=
 ∀ (W:World) (x:α),Bl V W->Calls prog cl (#[.agg (enc x).toArray]++lb) W λe w'=>e= .returned (.bool (p x))/\Bl W w'
theorem ZA.below {α:Type}{enc:α->List Value}{p:α->Bool}(h:ZA cl lb enc p V)(hb:Bl V W):PredBelow prog cl lb (λx=>.agg (enc x).toArray) p W:=
 λW' x hb'=>(h W' x (Bl.ca hb hb')).mono λ_ _ k=>⟨k.1,Bl.ca hb' k.2⟩
theorem YF (e:fl)(hX:∀ W,Bl V W->W.cell? ⟨X,0,E⟩=G (I J e.n)):ZA 323 #[.pointer (G ⟨X,0,E⟩)] fl.cs (λx=>decide (x.n>e.n)) V:=by
 intro W x hb;obtain⟨n,u,s,a⟩:=x;show Calls prog 323 #[.agg #[I J n,C u,I J s,I J a],.pointer (G ⟨X,0,E⟩)] W _;have hb1:Bl V (W.alloc (.cells #[I J n,C u,I J s,I J a] 289)):=Bl.al hb _;have hh:=hX _ hb1;clear hX
 go_enter func323,ntmps323
 go_wp2
 go_ret;exact⟨D,gl _ _⟩
theorem Oh (L)(v)(b:Nat)(e:fl)(w)(h:Rw fl.cs 289 4 w b v L)(hno:kC L e.n=E)(hn:L.length<16):
 Calls prog 260 #[v,e.v] w λe' w'=>∃ v',e'= .returned (.tuple #[v',av])/\Rw fl.cs 289 4 w' w.heap.size v' (oC L e)/\Bl w w':=by
 have AT:=λW (hb:Bl w W)=>Hl L e.n e.u v b W (h.bl hb) om;have hE:Mn L e.n e.u=101:=by unfold Mn;rw[hno]
 rw[hE] at AT;replace AT:=H AT;have HR:=H h;obtain⟨K,hK,HK⟩:=nh (gU (λx:fl=>decide (x.n>e.n)) L);have hKL:=By (λx:fl=>decide (x.n>e.n)) L;obtain⟨A,cap,rfl,hnc,hcap⟩:=h.form;obtain⟨n,hnn,HN⟩:=nh L.length;have EV:=H (show e.v= .agg #[I J e.n,C e.u,I J e.st,I J e.a] from rfl);rw[EV.out];obtain⟨X,V,hX,hV,BX,HB,HXw,SV⟩:=gC w #[I J e.n,C e.u,I J e.st,I J e.a] 289;obtain⟨x0,x1,x2,x3⟩:=pw BX;obtain⟨IX,HSL⟩:=eN (λW (hb:Bl V W)=>ixfSess (f:=fl.cs) (λ_=>rfl) _ Tryz.call323 W ((YF e x0).below hb) ((h.bl HB).bl hb) om) (Rw.sl kL (h.bl HB));replace AT:=H (λW (hb:Bl V W)=>AT W (HB.ca hb));rw[<-hK,<-hnn] at hKL;rw[<-hnn] at HSL hn AT IX hnc ⊢;have hlt:¬(16:Int)<=(n:Int):=om;have FIN:=H (λ(W:World) (B:Nat) (v4:Value) (hB:w.heap.size<=B) (ho:W.ownsRow B 289 4 v4 (K+1+(n - K)) ((L.flatMap fl.cs).take (K*4)++(e.cs++(L.flatMap fl.cs).drop (K*4))))=>show Rw fl.cs 289 4 W w.heap.size v4 (oC L e) by
  obtain⟨r1,r2⟩:=BH (f:=fl.cs) (sz:=4) (λ_=>rfl) (L:=L) (e:=e) (k:=K) (by rw[HN.out] at hKL;exact hKL);rw[HN.out,r1,r2,HK.out,<-wJ] at ho;exact fa ho hB)
 have hI:lH (λx:fl=>decide (x.n>e.n)) L=if K<n then(K:Int) else -1:=by unfold lH;rw[<-HK.out,<-HN.out]
 rw[hI] at IX;obtain⟨ae,hI2⟩:∃ ae:Int,ae=if K<n then(K:Int) else -1:=⟨_,D⟩;rw[<-hI2] at IX;have hIK:(ae=K/\K<n)∨(ae= -1/\K=n):=by rw[hI2];split<;>omega
 clear h hK hnn hno hE hI hI2;have hb0:=br V;obtain⟨AQ,hAQ,HSU⟩:=HSL.VR hKL hnc;replace HSU:=H HSU;have j1:(0:Int)<=(K:Int):=om;have j2:(K:Int)<=n:=om;have j3:(K:Int)<=cap:=om;rcases hIK with⟨rfl,hlt2⟩ | ⟨rfl,rfl⟩
 have j4:¬(K:Int)<0:=om;rotate_left;rw[cr] at HSU;have FI2:=FIN.out;simp only[cr] at FI2;replace FI2:=H FI2;rotate_left
 all_goals
  go_enter func260,ntmps260
  go_upto_region 1 with fail
  rw[<-hV,<-hX];clear hV hX
  go_wp2_with (first | (go_at_call 300;refine qx (AT _ ms) λw1 hb1=>?_) | (go_at_call 322;refine qx (IX _ ms) λw2 hb2=>?_))
  have hb3:=Bl.ca hb1 hb2;have HB3:=H hb3
  go_region_held3 (λw'=>Bl V w') (exact n7) (first | (go_at_call 301;refine aaj (QL (by exact(HSL.bl fU).pre (k:=K) om) lV abf (by exact fh _ _ sm) om) λv4 w4 ho4 hb4=>?_))
  go_wp2_with fail
  go_ret2
 ·exact⟨_,D,FIN _ _ _ (by have:=HB.size;have:=HB3.size;simp;omega) ho4,HB.ca ms⟩
 ·exact⟨_,D,FI2 _ _ _ (by have:=HB.size;have:=HB3.size;simp;omega) ho4,HB.ca ms⟩
theorem lD {P:Program}{fn:Func}{p a b:Tmp}{ty:TypeId}(h:fn.results=#[.tmp a,.cell p ty,.tmp b])(tmps:Array Value)(w:World)(g:Nat)(t:TypeId)(cs:Array Value)(fr:Nat×Nat)(d:TypeDesc)
 (hp:tmps.getD p undef= .pointer (G ⟨g,0,E⟩)) (hg:w.heap[g]?=G (.cells cs t fr))
 (hu:P.underlying ty=G d) (hd:(match d with | .struct _ | .array _ _=>Q | _=>z)=Q) (hi:(P.info? ty).map (·.size)=G cs.size):
 (results fn tmps).run P w= .ok (.tuple #[tmps.getD a undef,.agg cs,tmps.getD b undef]) w:=by
 have hp':tmps[p]?.getD undef= .pointer (G ⟨g,0,E⟩):=by simpa using hp
 simp[results,h,hp',asAddr,run_loadVar_row w g t ty cs fr d hg hu hd hi]
structure YS (w:World)(Y:Nat)(t:TypeId)(n:Nat)(W:World):Prop where
 b:Bl w W
 g:w.heap.size<=Y
 y:∃ cs,Bk W Y t cs/\cs.size=n
section
variable {w W W':World}{Y n:Nat}{t:TypeId}
theorem YS.dr (h:YS w Y t n W):YS w Y t n W.drew:=⟨h.b.dr,h.g,h.y⟩
theorem YS.al (h:YS w Y t n W)(o):YS w Y t n (W.alloc o):=⟨h.b.al o,h.g,let⟨cs,k,e⟩:=h.y;⟨cs,(gl W o).bl k,e⟩⟩
theorem YS.ca (h:YS w Y t n W)(hb:Bl W W'):YS w Y t n W':=⟨h.b.ca hb,h.g,let⟨cs,k,e⟩:=h.y;⟨cs,hb.bl k,e⟩⟩
theorem YS.st (h:YS w Y t n W)(i:Nat)(v):YS w Y t n (W.setCell ⟨Y,i,E⟩ v):=⟨h.b.st h.g v,h.g,let⟨_,k,e⟩:=h.y;⟨_,k.set i v,by simpa using e⟩⟩
theorem YS.fn (w)(Y:Nat)(t)(n:Nat):∃ F:World->Nat->Value,∀ W,YS w Y t n W->∀ j,j<n->W.cell? ⟨Y,j,E⟩=G (F W j):=by
 refine⟨λW j=>(W.cell? ⟨Y,j,E⟩).getD undef,λW h j hj=>?_⟩;exact nS
theorem YS.fr (h:YS w Y t n W)(j:Nat):W.frozen? ⟨Y,j,E⟩=z:=let⟨_,k,_⟩:=h.y;k.fr j
theorem YS.four (h:YS w Y t 4 W)(a b c d:Value):Bk ((((W.setCell ⟨Y,0,E⟩ a).setCell ⟨Y,1,E⟩ b).setCell ⟨Y,2,E⟩ c).setCell ⟨Y,3,E⟩ d) Y t #[a,b,c,d]:=by
 obtain⟨cs,k,e⟩:=h.y;obtain⟨l⟩:=cs
 match l,e with
 | [_,_,_,_],_=>exact(((k.set 0 a).set 1 b).set 2 c).set 3 d
theorem YS.fw (h:YS w Y t n W)(hg:Y≠g)(hw:w.heap.size<=g)(i:Nat)(v):YS w Y t n (W.setCell ⟨g,i,E⟩ v):=
 ⟨h.b.st hw v,h.g,let⟨cs,k,e⟩:=h.y;⟨cs,(aa0 W ⟨g,i,E⟩ v Y hg).trans k,e⟩⟩
theorem YS.lt (h:YS w Y t n W):Y<W.heap.size:=let⟨_,k,_⟩:=h.y;(aa2.1 k).1
theorem Ws{e}{v}(h:W.ownsRow b e sz v m xs)(hb:Bl W W'):W'.ownsRow b e sz v m xs:=by
 exact abB
theorem xW{e}{v}(h:W.ownsRow b e sz v m xs)(hY:Y<b)(a1 a2 a3 a4:Value):
 ((((W.setCell ⟨Y,0,E⟩ a1).setCell ⟨Y,1,E⟩ a2).setCell ⟨Y,2,E⟩ a3).setCell ⟨Y,3,E⟩ a4).ownsRow b e sz v m xs:=
 ownsRow_setCell_below (ownsRow_setCell_below (ownsRow_setCell_below (ownsRow_setCell_below h hY _) hY _) hY _) hY _
end
theorem LS (L)(v)(b:Nat)(n:Int)(u:ay)(t:Int)(x)(w)(h:Rw fl.cs 289 4 w b v L)(hx:kC L n=G x)(hu:x.u=u)(hn:L.length<=1000):
 Calls prog 229 #[v,I J n,C u,I J t] w λe' w'=>∃ v',e'= .returned (.tuple #[v',(x.stay t).v,av])/\Rw fl.cs 289 4 w' w.heap.size v' (tS L n)/\Bl w w':=by
 have AT:=λW (hb:Bl w W)=>Hl L n u v b W (h.bl hb) om;have hE:Mn L n u=0:=by unfold Mn;rw[hx];simp[hu]
 rw[hE] at AT;subst hu;have ST:=λW=>xt x t W;unfold fl.v eP.v at ST;replace ST:=H ST;obtain⟨hk,hkx⟩:=Jr hx;obtain⟨hrow,_⟩:=Cl hx 0 0;obtain⟨K,hK⟩:=fe (yQ L n);rw[<-hK] at AT hrow;replace AT:=H AT;replace hrow:=H hrow;have hkx':L[K]'(by rw[hK];exact hk)=x:=by subst hK;exact hkx
 rw[<-hK] at hk;obtain⟨A,cap,rfl,hnc,hcap⟩:=h.form;obtain⟨g,rfl,_,_,c0,c1,c2,c3⟩:=h.vW (f:=fl.cs) (λ_=>rfl) K hk;rw[hkx'] at c0 c1 c2 c3;have HSL:=H (Rw.sl kL h);obtain⟨m,hm,HM⟩:=nh L.length;rw[<-hm] at hn hnc hk AT HSL ⊢;have HSU:=HSL.RG (k:=K+1) om hnc;obtain⟨AQ,hAQ⟩:∃ AQ:Option Addr,(if cap=K+1 then G (⟨g,0,E⟩:Addr) else G ⟨g,(K+1)*4,E⟩)=AQ:=⟨_,D⟩;rw[hAQ] at HSU;replace HSU:=H HSU;have FIN:=H (λ(W:World) (B:Nat) (v4:Value) (hB:w.heap.size<=B) (ho:W.ownsRow B 289 4 v4 (K+(m - (K+1))) ((L.flatMap fl.cs).take (K*4)++((L.flatMap fl.cs).drop ((K+1)*4))))=>show Rw fl.cs 289 4 W w.heap.size v4 (tS L n) by
  rw[<-(gB fl.cs 4 (λ_=>rfl) L K).1,<-(gB fl.cs 4 (λ_=>rfl) L (K+1)).2,<-bB,<-hrow.out] at ho;have e:K+(m - (K+1))=(tS L n).length:=by rw[hrow.out,HM.out];simp;omega
  rw[e] at ho;exact fa ho hB)
 obtain⟨V,hV⟩:=fe (w.alloc (.cells #[av,av,av,av] 112));obtain⟨Y,hY⟩:=fe w.heap.size;have HY:=H (show YS w Y 112 4 V by rw[hV];exact⟨gl _ _,om,_,fh _ _ hY,D⟩);obtain⟨F,hF⟩:=YS.fn w Y 112 4;have y0:=λW (h:YS w Y 112 4 W)=>hF W h 0 dc;have y1:=λW (h:YS w Y 112 4 W)=>hF W h 1 dc;have y2:=λW (h:YS w Y 112 4 W)=>hF W h 2 dc;have y3:=λW (h:YS w Y 112 4 W)=>hF W h 3 dc;have yf:=λW j (h:YS w Y 112 4 W)=>h.fr j;have d0:=λW (h:YS w Y 112 4 W)=>c0 W h.b;have d1:=λW (h:YS w Y 112 4 W)=>c1 W h.b;have d2:=λW (h:YS w Y 112 4 W)=>c2 W h.b;have d3:=λW (h:YS w Y 112 4 W)=>c3 W h.b;have i1:(0:Int)<=(K:Int):=om;have i2:(K:Int)<m:=om;have i3:(K:Int)<=cap:=om;have i4:(K:Int)+1<=(m:Int):=om;have i5:(0:Int)<=(K:Int)+1:=om;have i6:IntKind.i64.wrap ((K:Int)+1)=(K:Int)+1:=jh om;have hc1:¬cap=K:=om;clear h hm hE hkx hkx' hF hx hK
 go_enter func229,ntmps229
 go_upto_region 1 with fail
 rw[<-hV,<-hY];clear hV hY
 go_wp2_with (go_at_call 300;refine qx (AT _ HY.b) λw1 hb1=>?_)
 have H1:=H (HY.ca hb1)
 go_region_held3 (λw'=>YS w Y 112 4 w') (first | assumption | exact YS.dr ms | exact H1.dr | exact YS.al ms _ | exact YS.ca ms ms | exact YS.st (YS.st (YS.st (YS.st ms _ _) _ _) _ _) _ _) (first | (go_at_call 301;refine aaj (QM (by exact(HSL.bl (YS.b ms)).pre (k:=K) om) (by exact HSU.bl (YS.b ms)) (by first | exact eL _ _ | exact fh _ _ sm) om) λv4 w4 ho4 hb4=>?_) | (go_at_call 257;refine qx (ST _) λw5 hb5=>?_))
 have H5:=((H1.al (.cells #[Z (G ⟨g,0,E⟩) K cap,Z AQ (m - (K+1)) (cap - (K+1))] 126)).dr.ca hb4).ca hb5;have hlt:=H1.lt;have hgl:=H1.g;have h5:=xW (Ws ho4 hb5) (show Y<_ by simp;omega) (I J (x.stay t).a) (I J (x.stay t).b) (I J (x.stay t).n) (I J (x.stay t).st)
 go_wp2_with fail
 exact aa1 (lD (p:=9) (a:=8) (b:=10) D _ _ _ _ _ _ _ D (H5.four _ _ _ _) underlying112 D ve) D ⟨_,D,FIN _ _ _ eC h5,(YS.st (YS.st (YS.st (YS.st H5 0 _) 1 _) 2 _) 3 _).b⟩
theorem Rw.mk' {α:Type}{f:α->List Value}{cs}{L:List α}(hf:∀ x,(f x).length=sz)(hB:Bk W g t cs)(hs:cs.size=cap*sz)(hn:n=L.length)(hc:n<=cap)(hm:cap<=9223372036854775807)(hb:b<=g)
 (h:∀ k (hk:k<L.length) j,j<sz->cs[k*sz+j]?=(f L[k])[j]?):Rw f t sz W b (Z (G ⟨g,0,E⟩) n cap) L:=by
 have hl:(L.flatMap f).length=L.length*sz:=by
  clear h hn hs
  induction L with
  | nil=>simp
  | cons x r ih=>rw[bh,aU,hf,ih,bj,bH];omega
 subst hn;refine⟨hl,.inr ⟨g,cap,cs,D,hb,hB,hc,by simpa[maxLen] using hm,hs,?_⟩⟩;have hle:L.length*sz<=cs.size:=by rw[hs];exact bt sz hc
 apply dh;intro q;rw[bE]
 split
 ·rename_i hq;have hsz:0<sz:=by
   rcases dS sz with h0 | h0
   ·subst h0;simp at hq
   ·exact h0
  have hk:q / sz<L.length:=(Nat.div_lt_iff_lt_mul hsz).2 hq;have e:=Nat.div_add_mod' q sz;have:=h (q / sz) hk (q % sz) (cY _ hsz);rw[e] at this;rw[cj,this];have h2:=pj f sz hf L (q / sz) (q % sz) hk (cY _ hsz);rw[e] at h2;exact h2.symm
 ·rw[b6 om]
theorem Hi (L)(v)(b:Nat)(n:Int)(u:ay)(s t:Int)(x)(w)(h:Rw fl.cs 289 4 w b v L)(hx:kC L n=G x)(hu:x.u=u)(hn:L.length<=1000):
 Calls prog 261 #[v,I J n,C u,I J s,I J t] w λe' w'=>∃ v',e'= .returned (.tuple #[v',(x.stay t).v,av])/\Rw fl.cs 289 4 w' w.heap.size v' (yP L n s t)/\Bl w w':=by
 have AT:=λW (hb:Bl w W)=>Hl L n u v b W (h.bl hb) om;have hE:Mn L n u=0:=by unfold Mn;rw[hx];simp[hu]
 rw[hE] at AT;subst hu;have ST:=λW=>xt x t W;unfold fl.v eP.v at ST;replace ST:=H ST;have CL:=H (λW (hb:Bl w W)=>clnSess kL W (h.bl hb) om);obtain⟨hk,hkx⟩:=Jr hx;obtain⟨_,hrow⟩:=Cl hx s t;obtain⟨K,hK⟩:=fe (yQ L n);rw[<-hK] at AT hrow;replace AT:=H AT;replace hrow:=H hrow;have hkx':L[K]'(by rw[hK];exact hk)=x:=by subst hK;exact hkx
 rw[<-hK] at hk;obtain⟨A,cap,rfl,hnc,hcap⟩:=h.form;obtain⟨g,rfl,_,_,c0,c1,c2,c3⟩:=h.vW (f:=fl.cs) (λ_=>rfl) K hk;rw[hkx'] at c0 c1 c2 c3;obtain⟨m,hm,HM⟩:=nh L.length;have HK:=H (show ∃ hk:K<L.length,L[K]=x from⟨hk,hkx'⟩);rw[<-hm] at hn hnc hk AT CL ⊢;obtain⟨V,hV⟩:=fe (w.alloc (.cells #[av,av,av,av] 112));obtain⟨Y,hY⟩:=fe w.heap.size;have HY:=H (show YS w Y 112 4 V by rw[hV];exact⟨gl _ _,om,_,fh _ _ hY,D⟩);obtain⟨F,hF⟩:=YS.fn w Y 112 4;have y0:=λW (h:YS w Y 112 4 W)=>hF W h 0 dc;have y1:=λW (h:YS w Y 112 4 W)=>hF W h 1 dc;have y2:=λW (h:YS w Y 112 4 W)=>hF W h 2 dc;have y3:=λW (h:YS w Y 112 4 W)=>hF W h 3 dc;have yf:=λW j (h:YS w Y 112 4 W)=>h.fr j;have i1:(0:Int)<=(K:Int):=om;have i2:(K:Int)<m:=om;clear h hm hE hkx hkx' hF hx hK
 go_enter func261,ntmps261
 go_upto_region 1 with fail
 rw[<-hV,<-hY];clear hV hY
 go_upto_region 5 with(first | (go_at_call 300;refine qx (AT _ HY.b) λw1 hb1=>?_;have H1:=H (HY.ca hb1);clear hb1) | (go_at_call 202;refine aaj (CL _ H1.b) λv2 w2 hr2 hb2=>?_))
 obtain⟨A2,cap2,rfl,hnc2,hcap2⟩:=hr2.form;obtain⟨hk0,hkx⟩:=HK.out;obtain⟨g2,rfl,hg2,hl2,hc2⟩:=hr2.at (f:=fl.cs) (λ_=>rfl) K hk0;obtain⟨cur2,hB2,hs2,ht2⟩:=hr2.cur;rw[hkx] at hc2;have s2:w2.cell? ⟨g2,K*4+2,E⟩=G (I J x.st):=hc2 2 dc;have s3:w2.cell? ⟨g2,K*4+3,E⟩=G (I J x.a):=hc2 3 dc;have z2:=hB2.fr (K*4+2);have z3:=hB2.fr (K*4+3);have hlt:=H1.lt;have hgl:=H1.g;obtain⟨H3,HB3⟩:=eN (((H1.ca hb2).fw (g:=g2) om om (K*4+2) (I J s)).fw (g:=g2) om om (K*4+3) (I J t)) ((hB2.set (K*4+2) (I J s)).set (K*4+3) (I J t));have FIN:=H (λ(W:World) (hW:Bk W g2 289 ((cur2.setIfInBounds (K*4+2) (I J s)).setIfInBounds (K*4+3) (I J t)))=>show Rw fl.cs 289 4 W w.heap.size (Z (G ⟨g2,0,E⟩) m cap2) (yP L n s t) by
  rw[hrow.out];refine Rw.mk' (λ_=>rfl) hW (by simpa using hs2) abl fT hcap2 om λk hk j hj=>?_;rw[cJ] at hk;have hle:k*4+j<cur2.size:=by have:=HM.out;omega
  have hcur:cur2[k*4+j]?=(fl.cs L[k])[j]?:=by
   obtain⟨g3,h3,_,_,h4⟩:=hr2.at (f:=fl.cs) (λ_=>rfl) k hk;injection h3 with h3
   injection h3 with h3
   subst h3;rw[<-h4 j hj,hB2.ce]
  rw[dy,bW,bW];by_cases hkk:K=k
  ·subst hkk;rw[aA D]
   match j,hj with
   | 0,_=>rw[az om,az om,hcur,hkx];rfl
   | 1,_=>rw[az om,az om,hcur,hkx];rfl
   | 2,_=>rw[az om,aA D,aA hle];rfl
   | 3,_=>rw[aA D,aA (by simpa using hle)];rfl
  ·rw[az hkk,az om,az om,hcur])
 rw[<-HM.out];clear hB2 hkx
 go_upto_region 6 with fail
 have hy3:=H3.out;obtain⟨d0,d1,d2,d3⟩:=uW c0 c1 c2 c3 _ hy3.b;generalize (w2.setCell ⟨g2,K*4+2,E⟩ (I J s)).setCell ⟨g2,K*4+3,E⟩ (I J t)=W3 at*
 go_wp2_with (go_at_call 257;refine qx (ST _) λw5 hb5=>?_;have h5:=H3.ca hb5)
 have hf:∀ (W:World) i v,Bk W g2 289 ((cur2.setIfInBounds (K*4+2) (I J s)).setIfInBounds (K*4+3) (I J t))->Bk (W.setCell ⟨Y,i,E⟩ v) g2 289 ((cur2.setIfInBounds (K*4+2) (I J s)).setIfInBounds (K*4+3) (I J t)):=
  λW i v h=>(aa0 W ⟨Y,i,E⟩ v g2 (show g2≠Y by omega)).trans h
 exact aa1 (lD (p:=11) (a:=10) (b:=12) D _ _ _ _ _ _ _ D (h5.four _ _ _ _) underlying112 D ve) D ⟨_,D,FIN _ (hf _ _ _ (hf _ _ _ (hf _ _ _ (hf _ _ _ (hb5.bl HB3))))),(YS.st (YS.st (YS.st (YS.st h5 0 _) 1 _) 2 _) 3 _).b⟩
theorem gS {b:ay}:(a.toList==b.toList)=decide (a=b):=by
 by_cases h:a=b
 ·rw[IV h,aF h]
 ·rw[Ej h,aC h]
theorem sub_one (x:Sub):∀ u∈x.cs,u.oneCell'=Q:=by simp[Sub.cs,Value.oneCell']
def B8 (w u s:ay):Bool:=decide (w=s)||decide (u=s)
theorem TV (w0 u s)(w):aai 382 #[.agg #[C w0,C u],C s] w (.bool (B8 w0 u s)):=by
 have E1:(w0.toList==s.toList)=decide (w0=s):=gS;have E2:(u.toList==s.toList)=decide (u=s):=gS;have HE:=H (show B8 w0 u s=(decide (w0=s)||decide (u=s)) from rfl);generalize decide (w0=s)=p at E1 HE;generalize decide (u=s)=q at E2 HE;rw[HE.out];cases p with
 | true=>
  go_enter func382,ntmps382
  go_wp2
  go_ret;exact⟨D,gl _ _⟩
 | false=>
  go_enter func382,ntmps382
  go_wp2
  go_ret;exact⟨sm,gl _ _⟩
theorem nK {α:Type}{u}{enc:α->List Value}{p:α->Bool}(hc:∀ (W:World) (x:α),W.cell? ⟨X,0,E⟩=G u->aai cl #[.agg (enc x).toArray,.pointer (G ⟨X,0,E⟩)] W (.bool (p x)))
 (hX:w.cell? ⟨X,0,E⟩=G u):(∀ g,g≠X->sR cl #[.pointer (G ⟨X,0,E⟩)] enc p w g)/\PredBelow prog cl #[.pointer (G ⟨X,0,E⟩)] (λx=>.agg (enc x).toArray) p w:=
 ⟨λg hg W x hW=>hc W x ((World.grownBy.cell hW hX) (by intro e;injection e with e;exact hg e.symm)),
  λW x hb=>(hc W x (Bl.ce hb hX)).mono λ_ _ k=>⟨k.1,Bl.ca hb k.2⟩⟩
theorem swc(u)(W:World)(x)(hX:W.cell? ⟨X,0,E⟩=G (C u)):aai 380 #[.agg (fl.cs x).toArray,.pointer (G ⟨X,0,E⟩)] W (.bool (decide (x.u=u))):=by
 obtain⟨n,y,s,t⟩:=x;show Calls prog 380 #[.agg #[I J n,C y,I J s,I J t],.pointer (G ⟨X,0,E⟩)] W _;have hX1:=(gl W (.cells #[I J n,C y,I J s,I J t] 289)).ce hX;clear hX;have E1:(y.toList==u.toList)=decide (y=u):=gS
 go_enter func380,ntmps380
 go_wp2
 go_ret;exact⟨D,gl _ _⟩
theorem VQ (u:ay)(L)(v)(b:Nat)(w)(h:Rw fl.cs 289 4 w b v L)(hn:L.length<=100000):
 Calls prog 331 #[v,C u] w λe w'=>∃ v',e= .returned v'/\Rw fl.cs 289 4 w' w.heap.size v' (L.filter λx=>!(decide (x.u=u)))/\Bl w w':=by
 obtain⟨X,V,hX,hV,BX,HB,HXw,SV⟩:=gC w #[C u] 9;have x0:=BX.all 0 D;obtain⟨CL,DL⟩:=eN (λW (hb:Bl V W)=>clnSess kL W ((h.bl HB).bl hb) hn) (λ(W W2:World) (v2:Value) (hb:Bl V W) (hr:Rw fl.cs 289 4 W2 W.heap.size v2 L) (hb2:Bl W W2)=>by
  obtain⟨k1,k2⟩:=nK (enc:=fl.cs) (p:=λx=>decide (x.u=u)) (swc (X:=X) u) (x0 W2 (hb.ca hb2));have hl:=(aa2.1 BX).1;exact zP.2.1 (λx=>decide (x.u=u)) Tryz.call380 W2 hr k2 (λg hg=>k1 g abj) hn)
 clear h;have hb0:=br V
 go_enter func331,ntmps331
 go_upto_region 1 with fail
 rw[<-hV,<-hX];clear hV hX
 go_wp2_with (first | (go_at_call 202;refine aaj (CL _ hb0) λv1 w1 hr1 hb1=>?_) | (go_at_call 379;refine(DL _ _ _ hb0 hr1 hb1).mono ?_;rintro e w2 ⟨v2,rfl,hr2,hg2,_⟩))
 go_ret;have hs:=HB.size;refine⟨_,D,fa hr2 hs,?_⟩;have hB:Bl w w1:=HB.ca hb1;exact hB.gr hg2 λk hk=>by have:=(hr1.lt k hk).1;omega
theorem ZV(u)(W:World)(x)(hX:W.cell? ⟨X,0,E⟩=G (C u)):aai 381 #[.agg (Sub.cs x).toArray,.pointer (G ⟨X,0,E⟩)] W (.bool (B8 x.w x.u u)):=by
 obtain⟨y,au,s,t⟩:=x;show Calls prog 381 #[.agg #[C y,C au,I J s,I J t],.pointer (G ⟨X,0,E⟩)] W _;have hX1:=(gl W (.cells #[C y,C au,I J s,I J t] 293)).ce hX;clear hX;skip
 go_enter func381,ntmps381
 go_wp2_with (go_at_call 382;refine qx (TV _ _ _ _) λw2 hb2=>?_)
 go_ret;exact⟨D,(gl _ _).ca hb2⟩
theorem R4 (u:ay)(L)(v)(b:Nat)(w)(h:Rw Sub.cs 293 4 w b v L)(hn:L.length<=100000):
 Calls prog 332 #[v,C u] w λe w'=>∃ v',e= .returned v'/\Rw Sub.cs 293 4 w' w.heap.size v' (L.filter λx=>!(B8 x.w x.u u))/\Bl w w':=by
 obtain⟨X,V,hX,hV,BX,HB,HXw,SV⟩:=gC w #[C u] 9;have x0:=BX.all 0 D;obtain⟨CL,DL⟩:=eN (λW (hb:Bl V W)=>clnSubs sub_one W ((h.bl HB).bl hb) hn) (λ(W W2:World) (v2:Value) (hb:Bl V W) (hr:Rw Sub.cs 293 4 W2 W.heap.size v2 L) (hb2:Bl W W2)=>by
  obtain⟨k1,k2⟩:=nK (enc:=Sub.cs) (p:=λx=>B8 x.w x.u u) (ZV (X:=X) u) (x0 W2 (hb.ca hb2));have hl:=(aa2.1 BX).1;exact zP.2.2.1 (λx=>B8 x.w x.u u) Tryz.call381 W2 hr k2 (λg hg=>k1 g abj) hn)
 clear h;have hb0:=br V
 go_enter func332,ntmps332
 go_upto_region 1 with fail
 rw[<-hV,<-hX];clear hV hX
 go_wp2_with (first | (go_at_call 204;refine aaj (CL _ hb0) λv1 w1 hr1 hb1=>?_) | (go_at_call 271;refine(DL _ _ _ hb0 hr1 hb1).mono ?_;rintro e w2 ⟨v2,rfl,hr2,hg2,_⟩))
 go_ret;have hs:=HB.size;refine⟨_,D,fa hr2 hs,?_⟩;have hB:Bl w w1:=HB.ca hb1;exact hB.gr hg2 λk hk=>by have:=(hr1.lt k hk).1;omega
theorem ZW(u:Int)(W:World)(x)(hX:W.cell? ⟨X,0,E⟩=G (I J u)):aai 272 #[.agg (Sub.cs x).toArray,.pointer (G ⟨X,0,E⟩)] W (.bool (decide (x.b<=u))):=by
 obtain⟨y,au,s,t⟩:=x;show Calls prog 272 #[.agg #[C y,C au,I J s,I J t],.pointer (G ⟨X,0,E⟩)] W _;have hX1:=(gl W (.cells #[C y,C au,I J s,I J t] 293)).ce hX;clear hX;skip
 go_enter func272,ntmps272
 go_wp2
 go_ret;exact⟨D,gl _ _⟩
theorem R5 (u:Int)(L)(v)(b:Nat)(w)(h:Rw Sub.cs 293 4 w b v L)(hn:L.length<=100000):
 Calls prog 214 #[v,I J u] w λe w'=>∃ v',e= .returned v'/\Rw Sub.cs 293 4 w' w.heap.size v' (L.filter λx=>!(decide (x.b<=u)))/\Bl w w':=by
 obtain⟨X,V,hX,hV,BX,HB,HXw,SV⟩:=gC w #[I J u] 3;have x0:=BX.all 0 D;obtain⟨CL,DL⟩:=eN (λW (hb:Bl V W)=>clnSubs sub_one W ((h.bl HB).bl hb) hn) (λ(W W2:World) (v2:Value) (hb:Bl V W) (hr:Rw Sub.cs 293 4 W2 W.heap.size v2 L) (hb2:Bl W W2)=>by
  obtain⟨k1,k2⟩:=nK (enc:=Sub.cs) (p:=λx=>decide (x.b<=u)) (ZW (X:=X) u) (x0 W2 (hb.ca hb2));have hl:=(aa2.1 BX).1;exact zP.2.2.1 (λx=>decide (x.b<=u)) Tryz.call272 W2 hr k2 (λg hg=>k1 g abj) hn)
 clear h;have hb0:=br V
 go_enter func214,ntmps214
 go_upto_region 1 with fail
 rw[<-hV,<-hX];clear hV hX
 go_wp2_with (first | (go_at_call 204;refine aaj (CL _ hb0) λv1 w1 hr1 hb1=>?_) | (go_at_call 271;refine(DL _ _ _ hb0 hr1 hb1).mono ?_;rintro e w2 ⟨v2,rfl,hr2,hg2,_⟩))
 go_ret;have hs:=HB.size;refine⟨_,D,fa hr2 hs,?_⟩;have hB:Bl w w1:=HB.ca hb1;exact hB.gr hg2 λk hk=>by have:=(hr1.lt k hk).1;omega
