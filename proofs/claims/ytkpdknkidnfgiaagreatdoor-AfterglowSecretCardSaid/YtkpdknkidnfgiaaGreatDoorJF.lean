/- Lemmas for AfterglowSecret: what functions of the program return; no condition. -/
import Derived.Laws.EntriesVeiled
import Derived.Lib.AppendStr
import Derived.Laws.Externs
import Derived.Test.YtkpdknkidnfgiaaGreatDoorJE
import Derived.Test.YtkpdknkidnfgiaaGreatDoorQA
import Derived.Test.YtkpdknkidnfgiaaGreatDoorJB
set_option maxHeartbeats 0
set_option maxRecDepth 100000
set_option linter.unusedVariables false
open Go.Value renaming int->I,string->C,slice->Z
open Go.IntKind renaming i64->J,u8->U
open Option renaming none->E,some->G
open Bool renaming true->Q,false->z
open Go.Lib renaming hid->H
open Go.Proofs.Tryz
namespace Go.Proofs.YtkpdknkidnfgiaaGreatDoor
theorem fM{p:Prop}(h:p:=by
 go_simp<;>(first | with_reducible rfl | omega)):p:=h
theorem rH{p:Prop}(h:p:=by
 go_enter func211,ntmps211
 go_wp2_with (go_at_call 265;refine(KA _).mono ?_;rintro e w1 ⟨rfl,rfl⟩)
 go_ret2
 exact HP _ (eT _ _)):p:=h
theorem fu{p:Prop}(h:p:=by
 go_wp2
 go_ret;exact⟨by rw[HF.out];rfl,D⟩):p:=h
theorem aaX{p:Prop}(h:p:=by
 go_enter func43,ntmps43
 exact fu):p:=h
theorem rA{p:Prop}(h:p:=by
 have HF:=H (show mh s=z by unfold mh;rw[HS.out (by rw[HW.out,aC (show ¬s[k].toNat<=126 by omega)];simp)];rfl);have e2:(126:Int)<(s[k].toNat:Int):=om;have d2:decide ((126:Int)<(s[k].toNat:Int))=Q:=aF e2;exact fu):p:=h
theorem rL{p:Prop}(h:p:=by
 have HF:=H (show mh s=z by unfold mh;rw[HS.out (by rw[HW.out,aC om];rfl)];rfl);have e1:(s[k].toNat:Int)<33:=om;have d1:decide ((s[k].toNat:Int)<33)=Q:=aF e1;exact fu):p:=h
theorem abz{p:Prop}(h:p:=by
 go_wp2_with fail
 go_ret;exact⟨⟨_,D,show(0:Int)<= -1↔_ from⟨λh=>by omega,λh=>by rw[HE.out] at h;cases h⟩⟩,D⟩):p:=h
theorem gN{p:Prop}(h:p:=by
 go_wp2_with fail
 go_ret;exact⟨D,D⟩):p:=h
theorem rj{p:Prop}(h:p:=by
 go_enter func224,ntmps224
 go_wp2_with (go_at_call 294;refine(OC _ _).mono ?_;rintro e w2 ⟨rfl,rfl⟩)
 go_ret;exact⟨by rw[HE.out];rfl,D⟩):p:=h
theorem rk{p:Prop}(h:p:=by
 go_enter func208,ntmps208
 go_wp2_with (go_at_call 259;refine(Tq _ _).mono ?_;rintro e w2 ⟨rfl,rfl⟩)
 go_ret;exact⟨by rw[HE.out];rfl,D⟩):p:=h
variable {a:ByteArray} {fuel k:Nat} {T ty:TypeId} {W w w' w1 w2:World}
namespace FrM
open CrcM
open Ds (fP qB jD yI lh)
def isKind (c:UInt8):Bool:=decide (97<=c.toNat)&&decide (c.toNat<=122)
def iq (c:UInt8):Bool:=decide (32<=c.toNat)&&decide (c.toNat<=126)
def pL (c:UInt8):Bool:=decide (c.toNat=254)
def ig (c:UInt8):Bool:=(decide (48<=c.toNat)&&decide (c.toNat<=57))||(decide (97<=c.toNat)&&decide (c.toNat<=102))
def val (c:UInt8):Nat:=if c.toNat<58 then c.toNat - 48 else c.toNat - 87
def unhex (l:List UInt8):Nat:=l.foldl (λn c=>16*n+val c) 0
def sc (q:Nat->UInt8->Bool):Nat->Nat->List UInt8->Nat
 | _,0,_=>0
 | _,_+1,[]=>43
 | k,n+1,c::r=>if q k c=Q then sc q (k+1) n r else 44
theorem AX (q:Nat->UInt8->Bool)(k n m:Nat)(s):sc q k (n+m) s=if sc q k n s=0 then sc q (k+n) m (s.drop n) else sc q k n s:=by
 induction n generalizing k s with
 | zero=>cases s<;>simp[sc]
 | succ n ih=>
  cases s with
  | nil=>rw[show n+1+m=(n+m)+1 by omega];simp[sc]
  | cons c r=>
   have e1:sc q k (n+1+m) (c::r)=if q k c=Q then sc q (k+1) (n+m) r else 44:=by rw[show n+1+m=(n+m)+1 by omega];rfl
   have e2:sc q k (n+1) (c::r)=if q k c=Q then sc q (k+1) n r else 44:=rfl;rw[e1,e2,cn];by_cases h:q k c=Q
   ·rw[aA h,aA h,ih,show k+1+n=k+(n+1) by omega]
   ·rw[az h,az h];simp
theorem wj (q:Nat->UInt8->Bool)(k n:Nat)(s)(h:sc q k n s=0):n<=s.length/\∀ j (hj:j<s.length),j<n->q (k+j) s[j]=Q:=by
 induction n generalizing k s with
 | zero=>exact⟨aD _,λj _ h=>absurd h (Nat.not_lt_zero _)⟩
 | succ n ih=>
  cases s with
  | nil=>cases h
  | cons c r=>
   unfold sc at h;by_cases hq:q k c=Q
   ·rw[aA hq] at h;obtain⟨h1,h2⟩:=ih _ _ h;refine⟨eC,λj hj hjn=>?_⟩
    match j with
    | 0=>exact hq
    | j+1=>
     have:=h2 j gZ om;rw[show k+(j+1)=k+1+j by omega];exact this
   ·rw[az hq] at h;cases h
theorem R3 (q:Nat->UInt8->Bool)(k n:Nat)(s t:List UInt8)(h:n<=s.length):sc q k n (s++t)=sc q k n s:=by
 induction n generalizing k s with
 | zero=>cases s<;>cases t<;>rfl
 | succ n ih=>
  cases s with
  | nil=>simp at h
  | cons c r=>
   show sc q k (n+1) (c::(r++t))=_;unfold sc;rw[ih _ _ fc]
def head (k:Nat)(c:UInt8):Bool:=if k=0 then pL c else if k=1 then isKind c else ig c
def body (n:Nat)(k:Nat)(c:UInt8):Bool:=if k<6+n then iq c else ig c
def ix (s:List UInt8):Nat:=unhex ((s.drop 2).take 4)
def inner (k:UInt8)(b:List UInt8):List UInt8:=k::(hex 4 b.length++b)
def whole (k:UInt8)(b:List UInt8):List UInt8:=254::(inner k b++hex 8 (tA (inner k b)))
def DF (k:UInt8)(b:List UInt8):Nat:=if isKind k=z then 40 else if 2000<b.length then 41 else if b.all iq=z then 42 else 0
def qj (k:UInt8)(b:List UInt8):List UInt8:=if DF k b=0 then whole k b else []
def vQ (s:List UInt8):Nat:=
 if sc head 0 6 s≠0 then sc head 0 6 s
 else if 2000<ix s then 44
 else if sc (body (ix s)) 6 (ix s+8) (s.drop 6)≠0 then sc (body (ix s)) 6 (ix s+8) (s.drop 6)
 else if(s.drop (6+ix s)).take 8≠hex 8 (tA ((s.take (6+ix s)).drop 1)) then 45
 else 0
def Rh (s:List UInt8):UInt8:=if vQ s=0 then s.getD 1 0 else 0
def XP (s:List UInt8):List UInt8:=if vQ s=0 then(s.take (6+ix s)).drop 6 else []
def Ku (s:List UInt8):Nat:=if vQ s=0 then 14+ix s else 0
theorem KJ (n:Nat)(h:n<16):ig (wN n)=Q:=by
 have all:∀ n,n<16->ig (wN n)=Q:=dc;exact all n h
theorem Rp (n:Nat)(h:n<16):val (wN n)=n:=by
 have all:∀ n,n<16->val (wN n)=n:=dc;exact all n h
theorem B7 (k n:Nat):∀ c∈hex k n,ig c=Q:=by
 induction k generalizing n with
 | zero=>intro c h;cases h
 | succ k ih=>
  intro c h;simp only[hex,bG,bP] at h;rcases h with h | rfl
  ·exact ih _ c h
  ·exact KJ _ (cY _ om)
theorem sU (l:List UInt8)(c:UInt8):unhex (l++[c])=16*unhex l+val c:=by unfold unhex;rw[cX];rfl
theorem zj (k n:Nat)(h:n<16 ^ k):unhex (hex k n)=n:=by
 induction k generalizing n with
 | zero=>simp at h;subst h;rfl
 | succ k ih=>
  simp only[hex];rw[sU,ih _ (by rw[cQ] at h;omega),Rp _ (cY _ om)];omega
theorem FX (c:UInt8)(h:ig c=Q):val c<16:=by
 unfold ig at h;unfold val;simp at h
 split<;>omega
theorem CQ (l:List UInt8)(h:∀ c∈l,ig c=Q):unhex l<16 ^ l.length:=by
 have gen:∀ (l:List UInt8) (a:Nat),(∀ c∈l,ig c=Q)->l.foldl (λn c=>16*n+val c) a<(a+1)*16 ^ l.length:=by
  intro l
  induction l with
  | nil=>intro a _;simp
  | cons c r ih=>
   intro a h;have h1:=ih (16*a+val c) (λx hx=>h x (cV _ hx));have h2:=FX c (h c (List.mem_cons_self ..));rw[dj,bj,cQ];refine bK h1 ?_;have:(16*a+val c+1)*16 ^ r.length<=(16*(a+1))*16 ^ r.length:=bt _ om;refine aH this (bn ?_);rw[da 16 (a+1),Nat.mul_assoc,da 16]
 have:=gen l 0 h;simpa[unhex] using this
theorem Lj (l:List UInt8)(h:∀ c∈l,ig c=Q):hex l.length (unhex l)=l:=by
 have dv:∀ c,ig c=Q->wN (val c)=c:=by
  intro c hc;unfold ig at hc;simp at hc;apply cE.1;have:=c.toNat_lt;rcases hc with⟨h1,h2⟩ | ⟨h1,h2⟩
  ·have hv:val c=c.toNat - 48:=by unfold val;rw[aA om]
   unfold wN;rw[aA om,hv];simp;omega
  ·have hv:val c=c.toNat - 87:=by unfold val;rw[az om]
   unfold wN;rw[az om,hv];simp;omega
 have gen:∀ n (l:List UInt8),l.length=n->(∀ c∈l,ig c=Q)->hex n (unhex l)=l:=by
  intro n
  induction n with
  | zero=>intro l hl _;rw[aa6.1 hl];rfl
  | succ n ih=>
   intro l hl h;obtain⟨r,c,rfl⟩:∃ r c,l=r++[c]:=⟨l.dropLast,l.getLast (by intro e;simp[e] at hl),(List.dropLast_concat_getLast _).symm⟩;have hv:=FX c (h c sm);rw[sU];simp only[hex];rw[show(16*unhex r+val c) / 16=unhex r by omega,show(16*unhex r+val c) % 16=val c by omega,ih r (by simpa using hl) (λx hx=>h x aaA),dv c (h c sm)]
 exact gen _ l D h
end FrM
section
open Go.RowKit CrcM FrM
open Ds (fP qB jD yI lh)
theorem mI {a b:Bool}(h:a=b):Ending.returned (.bool a)= .returned (.bool b):=by rw[h]
theorem yl (c:UInt8)(w):Calls prog 265 #[I U c.toNat] w λe w'=>e= .returned (.bool (isKind c))/\w=w':=by
 by_cases h1:97<=c.toNat
 ·by_cases h2:c.toNat<=122;have ah:=H (show isKind c=Q by simp[isKind,h1,h2]);rotate_left;have ah:=H (show isKind c=z by simp[isKind];omega);rotate_left
  all_goals
   go_enter func265,ntmps265
   go_wp2
   go_ret;exact⟨mI (by rw[ah.out];simp<;>omega),D⟩
 ·have ah:=H (show isKind c=z by simp[isKind];omega)
  go_enter func265,ntmps265
  go_wp2
  go_ret;exact⟨mI (by rw[ah.out]),D⟩
theorem Kj (c:UInt8)(w):Calls prog 267 #[I U c.toNat] w λe w'=>e= .returned (.bool (iq c))/\w=w':=by
 by_cases h1:32<=c.toNat
 ·by_cases h2:c.toNat<=126;have ah:=H (show iq c=Q by simp[iq,h1,h2]);rotate_left;have ah:=H (show iq c=z by simp[iq];omega);rotate_left
  all_goals
   go_enter func267,ntmps267
   go_wp2
   go_ret;exact⟨mI (by rw[ah.out];simp<;>omega),D⟩
 ·have ah:=H (show iq c=z by simp[iq];omega)
  go_enter func267,ntmps267
  go_wp2
  go_ret;exact⟨mI (by rw[ah.out]),D⟩
theorem OW (c:UInt8)(w):Calls prog 355 #[I U c.toNat] w λe w'=>e= .returned (.bool (pL c))/\w=w':=by
 have ah:=H (show((c.toNat:Int)==254)=pL c by
  unfold pL;by_cases h:c.toNat=254
  ·simp[h]
  ·rw[aC h,aX];omega)
 go_enter func355,ntmps355
 go_wp2
 go_ret;exact⟨mI ah,D⟩
theorem GZ (c:UInt8):Lib.indexByte [48,49,50,51,52,53,54,55,56,57,97,98,99,100,101,102] c=if ig c=Q then((val c:Nat):Int) else -1:=by
 have all:∀ n:Fin 256,Lib.indexByte [48,49,50,51,52,53,54,55,56,57,97,98,99,100,101,102] (UInt8.ofNat n)=if ig (UInt8.ofNat n)=Q then((val (UInt8.ofNat n):Nat):Int) else -1:=dk;have:=all ⟨c.toNat,c.toNat_lt⟩;simpa using this
def me (l:List UInt8):Bool:=l.all ig
def Cv (s:List UInt8):Bool:=decide (1<=s.length/\s.length<=12)&&me s
def FF (s:List UInt8):Nat:=if Cv s=Q then unhex s else 0
theorem uJ (l)(k:Nat)(h:me l=Q)(hl:l.length<=k)(hk:k<=12):unhex l<16 ^ k/\unhex l<281474976710656:=by
 have h1:=CQ l (by simpa[me] using h);have h2:=Nat.pow_le_pow_right (n:=16) om hl;have h3:=Nat.pow_le_pow_right (n:=16) om hk;omega
theorem or_val (n v:Nat)(hn:n<281474976710656)(hv:v<16):bits .or .i64 ((n:Int)*16) (v:Int)=((16*n+v:Nat):Int):=by
 have:=bits_join .i64 63 dc (λm h0 h2=>IntWalk.i64_in m om) 4 ((n:Int)*16) (v:Int) om om om om om om;rw[this];omega
theorem eZ (s:ay):s.size=s.data.toList.length:=by show s.data.size=_;simp
theorem Fv (l:List UInt8)(c:UInt8):me (l++[c])=(me l&&ig c):=by simp[me]
theorem oV (s:ay)(w:World)(hs:s.size<=9223372036854775807):
 Calls prog 222 #[C s] w λe w'=>e= .returned (.tuple #[I J (FF s.data.toList),.bool (Cv s.data.toList)])/\w=w':=by
 have hsz:=eZ s;by_cases hr:1<=s.size/\s.size<=12
 ·obtain⟨h1,h12⟩:=hr;have HSZ:=H hsz;clear hsz
  go_enter func222,ntmps222
  go_wp2
  go_loop [4,17] (λx i=>∃ k n:Nat,k<=s.size/\n=unhex (s.data.toList.take k)/\me (s.data.toList.take k)=Q/\i= I J k/\x= I J n) (λ_ i=>s.size - (intOf i).toNat)
  case atStart=>exact⟨0,0,aD _,D,D,D,D⟩
  case round=>
   obtain⟨k,n,hk,hn,hd,rfl,rfl⟩:=hrel;have hb:=(uJ (s.data.toList.take k) 12 hd fO om).2;rw[<-hn] at hb;obtain⟨HN,HD⟩:=eN hn hd;clear hn hd;by_cases hlt:k<s.size
   ·have HI:=GZ s[k];have hofn:UInt8.ofNat s[k].toNat=s[k]:=sm;by_cases hg:ig s[k]=Q
    ·rw[aA hg] at HI;have hv:=FX _ hg;obtain⟨HU,HA,HO⟩:=gi (show 16*n+val s[k]=unhex (s.data.toList.take (k+1)) by rw[pU s k hlt,sU,HN.out]) (show me (s.data.toList.take (k+1))=Q by rw[pU s k hlt,Fv,HD.out,hg];rfl) (or_val n (val s[k]) hb hv);clear hg
     go_wp2_with (go_at_call 167;refine QS (Tryz.strings_IndexByte _ _ _) ?_)
     go_round
     case rel=>exact⟨k+1,16*n+val s[k],om,HU,HA,by go_num,int_eq HO⟩
     case measure=>simp[intOf];omega
    ·rw[az hg] at HI;have HB:=H (show Cv s.data.toList=z by
      have:ig s[k]=z:=by simpa using hg
      unfold Cv me;rw[Bool.and_eq_false_iff];right;rw[dC];exact⟨s[k],abx,by simpa using hg⟩)
     clear hg
     go_wp2_with (go_at_call 167;refine QS (Tryz.strings_IndexByte _ _ _) ?_)
     go_ret2
     exact⟨by unfold FF;rw[HB.out];rfl,D⟩
   ·obtain rfl:k=s.size:=om;have HB:=H (show Cv s.data.toList=Q by
     have:=HD.out;rw[nG] at this;unfold Cv;rw[this,<-HSZ.out];simp;omega)
    have HU:=H (show n=unhex s.data.toList by rw[HN.out,nG])
    go_wp2
    go_ret2
    exact⟨by unfold FF;rw[HB.out,<-HU.out];rfl,D⟩
 ·have HB:=H (show Cv s.data.toList=z by unfold Cv;rw[<-hsz];simp;omega);clear hsz;by_cases h1:s.size<1;rotate_left;have h12:12<s.size:=om;rotate_left
  all_goals
   go_enter func222,ntmps222
   go_wp2
   go_ret2
   exact⟨by unfold FF;rw[HB.out];rfl,D⟩
theorem Kq (c:UInt8):Cv [c]=ig c:=by simp[Cv,me]
theorem LI (c:UInt8)(w):Calls prog 356 #[I U c.toNat] w λe w'=>e= .returned (.bool (ig c))/\Below w.heap.size w w':=by
 have hcv:=yA w (c.toNat:Int) c.toNat D c.toNat_lt;have ho:(⟨#[UInt8.ofNat c.toNat]⟩:ay)=⟨#[c]⟩:=sm;rw[ho] at hcv;obtain⟨aj,hC⟩:∃ aj:ay,aj=⟨#[c]⟩:=⟨_,D⟩;have hC1:aj.size<=9223372036854775807:=by rw[hC];show 1<=9223372036854775807;omega
 have HC2:=H (show Cv aj.data.toList=ig c by rw[hC];exact Kq c);simp only[<-hC] at hcv;clear hC ho
 go_enter func356,ntmps356
 go_wp2_with fail
 refine QS (oV aj _ hC1) ?_
 go_wp2
 go_ret;exact⟨mI HC2,(aa4 _ _).alloc (aB _) _⟩
structure Ar (f:FuncId)(p:UInt8->Bool):Prop where
 call:∀ (c:UInt8) (w:World),Calls prog f #[I U c.toNat] w λe w'=>e= .returned (.bool (p c))/\Below w.heap.size w w'
 enters:∀ (v:Value) (w:World),(callFunc f #[v]).run prog w= .ok (.enter f #[v]) w
theorem Gd:Ar 265 isKind:=⟨λc w=>(yl c w).mono λ_ _ ⟨h1,h2⟩=>⟨h1,h2▸aa4 _ _⟩,λ_ _=>eG⟩
theorem vA:Ar 267 iq:=⟨λc w=>(Kj c w).mono λ_ _ ⟨h1,h2⟩=>⟨h1,h2▸aa4 _ _⟩,λ_ _=>eG⟩
theorem Gc:Ar 355 pL:=⟨λc w=>(OW c w).mono λ_ _ ⟨h1,h2⟩=>⟨h1,h2▸aa4 _ _⟩,λ_ _=>eG⟩
theorem vB:Ar 356 ig:=⟨LI,λ_ _=>eG⟩
theorem zi (s:ay)(f)(p:UInt8->Bool)(hf:Ar f p)(w:World)(hs:s.size<=9223372036854775807):
 Calls prog 266 #[C s,.func (.func f) #[] #[]] w λe w'=>e= .returned (.bool (!s.data.toList.all p))/\Below w.heap.size w w':=by
 have HF:=H hf.call;have hcf:=hf.enters
 go_enter func266,ntmps266
 go_wp2
 go_loopw [8] (λi wr=>∃ k:Nat,k<=s.size/\(s.data.toList.take k).all p=Q/\i= I J k/\Below w.heap.size w wr) (λi _=>s.size - (intOf i).toNat)
 case atStart=>exact⟨0,aD _,D,D,aa4 _ _⟩
 case round=>
  obtain⟨k,hk,hd,rfl,hb⟩:=hrel;have HD:=H hd;clear hd;by_cases hlt:k<s.size
  ·go_wp2_with fail
   refine qx (HF s[k] _) λw1 hb1=>?_;by_cases hp:p s[k]=Q
   ·have HA:=H (show(s.data.toList.take (k+1)).all p=Q by rw[pU s k hlt,dF,HD.out];simp[hp])
    go_wp2
    go_roundw
    case rel=>exact⟨k+1,om,HA,by go_num,hb.trans (hb1.mono hb.size)⟩
    case measure=>simp[intOf];omega
   ·have hp':p s[k]=z:=by simpa using hp
    have HA:=H (show s.data.toList.all p=z by
     rw[dC];exact⟨s[k],abx,hp⟩)
    clear hp
    go_wp2
    go_ret;exact⟨mI (by rw[HA.out];rfl),hb.trans (hb1.mono hb.size)⟩
  ·obtain rfl:k=s.size:=om;have HA:=H (show s.data.toList.all p=Q by have:=HD.out;rw[nG] at this;exact this)
   go_wp2
   go_ret;exact⟨mI (by rw[HA.out];rfl),hb⟩
def Dt:List UInt8->List (Nat×(UInt8->Bool))->Nat
 | _,[]=>0
 | s,(n,p)::L=>if(s.take n).all p=z then 44 else if s.length<n then 43 else Dt (s.drop n) L
theorem gg (x:ay)(a b:Nat):(x.extract a b).data.toList=(x.data.toList.take b).drop a:=by
 rw[ByteArray.data_extract];simp[List.drop_take]
theorem extract_size (x:ay)(a b:Nat):(x.extract a b).size=min b x.size - a:=dR
structure Ra (w:World)(b:Nat)(L:List (Nat×FuncId×(UInt8->Bool))):Prop where
 long:∀ j (h:j<L.length),w.cell? ⟨b,j*2,E⟩=G (I J (L[j].1:Nat))
 may:∀ j (h:j<L.length),w.cell? ⟨b,j*2+1,E⟩=G (.func (.func L[j].2.1) #[] #[])
def yL (L:List (Nat×FuncId×(UInt8->Bool))):Prop:=∀ x∈L,Ar x.2.1 x.2.2/\x.1<=2000
def FG (L:List (Nat×FuncId×(UInt8->Bool))):List (Nat×(UInt8->Bool)):=L.map λx=>(x.1,x.2.2)
def yK (code:Nat)(w:World)(e:Ending)(w':World):Prop:=∃ r:ay,e= .returned (.tuple #[C r,I J code])/\Below w.heap.size w w'
theorem Dr (s:ay)(b n:Nat)(L:List (Nat×FuncId×(UInt8->Bool)))(hn:n=L.length)(hl:n<=3)(w)(hs:s.size<=9223372036854775807)(hL:yL L)(hp:Ra w b L)(hbw:b<w.heap.size):
 Calls prog 354 #[C s,Z (G ⟨b,0,E⟩) n n] w (yK (Dt s.data.toList (FG L)) w):=by
 obtain⟨HN,HP,HL⟩:=gi hn hp hL;clear hn hp hL
 go_enter func354,ntmps354
 go_wp2
 go_loopw [0,11] (λx i wr=>∃ (j:Nat) (t:ay),j<=n/\t.size<=s.size/\Dt s.data.toList (FG L)=Dt t.data.toList ((FG L).drop j)/\i= I J j/\x= C t/\Below w.heap.size w wr) (λ_ i _=>n - (intOf i).toNat)
 case atStart=>exact⟨0,s,aD _,aB _,D,D,D,aa4 _ _⟩
 case round=>
  obtain⟨j,t,hj,hts,hrd,rfl,rfl,hb⟩:=hrel;have HRD:=H hrd;clear hrd;by_cases hlt:j<n
  ·have hjL:j<L.length:=by rw[<-HN.out];exact hlt
   obtain⟨m,hm⟩:=fe (L[j].1);obtain⟨f,hf⟩:=fe (L[j].2.1);obtain⟨p,hpp⟩:=fe (L[j].2.2);have hc0:wr.cell? ⟨b,j*2,E⟩=G (I J (m:Nat)):=by rw[hb.cell hbw,hm];exact HP.long j hjL
   have hc1:wr.cell? ⟨b,j*2+1,E⟩=G (.func (.func f) #[] #[]):=by rw[hb.cell hbw,hf];exact HP.may j hjL
   have hok:=HL L[j] (aV _);rw[<-hm,<-hf,<-hpp] at hok;obtain⟨hT,hm2⟩:=hok;obtain⟨HT,HRD2⟩:=eN hT (show Dt s.data.toList (FG L)=if(t.data.toList.take m).all p=z then 44 else if t.data.toList.length<m then 43 else Dt (t.data.toList.drop m) ((FG L).drop (j+1)) by
    rw[HRD.out,aR (show j<(FG L).length by simp[FG];exact hjL)];have e:(FG L)[j]'(by simp[FG];exact hjL)=(m,p):=by simp[FG,hm,hpp]
    rw[e];rfl)
   clear hm hf hpp;have hsl:=eZ t;have HSL:=H hsl;clear hsl;obtain⟨q,hq⟩:=fe (min m t.size);have hmin:min (m:Int) (t.size:Int)=(q:Int):=om;have hqm:q<=m:=om;have hqt:q<=t.size:=om;obtain⟨HQS,HQG,HTK⟩:=gi (show q<m->t.data.toList.length<m by have:=HSL.out;omega) (show ¬q<m->¬t.data.toList.length<m/\q=m by have:=HSL.out;omega) (show t.data.toList.take q=t.data.toList.take m by
    rw[hq,<-du,HSL.out,aT])
   clear hq;have hxs:(t.extract 0 q).size<=9223372036854775807:=by rw[extract_size];omega
   have i0:(0:Int)<=(q:Int):=om;have i1:(q:Int)<=(t.size:Int):=om
   go_wp2
   obtain⟨W,hW⟩:=fe (wr.alloc (.cells #[I J m,.func (.func f) #[] #[]] 437));have k0:W.cell? ⟨wr.heap.size,0,E⟩=G (I J m):=by rw[hW];simp
   have k1:W.cell? ⟨wr.heap.size,1,E⟩=G (.func (.func f) #[] #[]):=by rw[hW];simp
   have hWs:wr.heap.size<W.heap.size:=by rw[hW];simp
   have hbW:Below w.heap.size w W:=by rw[hW];exact hb.alloc hb.size _
   rw[<-hW];clear hW
   go_region_held3 (λw'=>(w'.cell? ⟨wr.heap.size,0,E⟩=G (I J m)/\w'.cell? ⟨wr.heap.size,1,E⟩=G (.func (.func f) #[] #[]))/\Below W.heap.size W w')
    (first | exact⟨⟨k0,k1⟩,kE⟩ | exact⟨⟨(hb3.cell hWs).trans k0,(hb3.cell hWs).trans k1⟩,hb3⟩ | exact ms)
    (first | (go_at_call 266;refine qx (zi (t.extract 0 q) f p HT _ hxs) λw2 hb2=>?_;have hb3:Below W.heap.size W w2:=kE.trans hb2) | fail)
   have hbW2:=hbW.trans (hb3.mono hbW.size);have k2:w2.cell? ⟨wr.heap.size,0,E⟩=G (I J m):=(hb3.cell hWs).trans k0;generalize hA:(t.data.toList.take q).all p=A;have HA:=H hA;clear hA;cases A with
   | true=>
    by_cases hsh:q<m
    ·have HR:=H (show Dt s.data.toList (FG L)=43 by rw[HRD2.out,<-HTK.out,az (by rw[HA.out];decide),aA (HQS hsh)])
     go_wp2
     go_ret2
     exact⟨_,by rw[HR.out];rfl,hbW2⟩
    ·obtain⟨g1,g2⟩:=HQG hsh;have HR:=H (show Dt s.data.toList (FG L)=Dt (t.extract m t.size).data.toList ((FG L).drop (j+1)) by
      rw[HRD2.out,<-HTK.out,az (by rw[HA.out];decide),az g1,gg,HSL.out,aT])
     subst g2;have HZ:=H (show(t.extract q t.size).size<=s.size by rw[extract_size];omega)
     go_wp2
     go_roundw
     case rel=>exact⟨j+1,t.extract q t.size,om,HZ,HR,by go_num,D,hbW2⟩
     case measure=>simp[intOf];omega
   | false=>
    have HR:=H (show Dt s.data.toList (FG L)=44 by rw[HRD2.out,<-HTK.out,aA HA.out])
    go_wp2
    go_ret2
    exact⟨_,by rw[HR.out];rfl,hbW2⟩
  ·obtain rfl:j=n:=om;have HR:=H (show Dt s.data.toList (FG L)=0 by
    rw[HRD.out,List.drop_of_length_le (by simp[FG];exact bn HN.symm)];cases t.data.toList<;>rfl)
   go_wp2
   go_ret2
   exact⟨_,by rw[HR.out];rfl,hb⟩
theorem Nu (p:UInt8->Bool)(q:Nat->UInt8->Bool)(k n:Nat)(s:List UInt8)(h:∀ j c,j<n->q (k+j) c=p c):
 sc q k n s=if(s.take n).all p=z then 44 else if s.length<n then 43 else 0:=by
 induction n generalizing k s with
 | zero=>cases s<;>simp[sc]
 | succ n ih=>
  cases s with
  | nil=>simp[sc]
  | cons c r=>
   have h0:=h 0 c om;simp at h0;have e:sc q k (n+1) (c::r)=if q k c=Q then sc q (k+1) n r else 44:=rfl;rw[e,h0,ih (k+1) r (λj c hj=>by have:=h (j+1) c om;rw[show k+1+j=k+(j+1) by omega];exact this)];rw[cK,bD];cases hp:p c<;>simp
theorem qq (s:List UInt8)(n:Nat)(p:UInt8->Bool)(L:List (Nat×(UInt8->Bool)))(q:Nat->UInt8->Bool)(k:Nat)(h:∀ j c,j<n->q (k+j) c=p c):
 Dt s ((n,p)::L)=if sc q k n s=0 then Dt (s.drop n) L else sc q k n s:=by
 rw[Nu p q k n s h];show(if(s.take n).all p=z then 44 else if s.length<n then 43 else Dt (s.drop n) L)=_;by_cases h1:(s.take n).all p=z
 ·rw[aA h1,aA h1];rfl
 ·rw[az h1,az h1];by_cases h2:s.length<n
  ·rw[aA h2,aA h2];rfl
  ·rw[az h2,az h2];rfl
theorem Iy (s):Dt s []=0:=by cases s<;>rfl
theorem NT (s):Dt s [(1,pL),(1,isKind),(4,ig)]=sc head 0 6 s:=by
 have a0:∀ j c,j<1->head (0+j) c=pL c:=λj c hj=>by rw[show 0+j=0 by omega];rfl
 have a1:∀ j c,j<1->head (1+j) c=isKind c:=λj c hj=>by rw[show 1+j=1 by omega];rfl
 rw[qq s 1 pL _ head 0 a0,qq _ 1 isKind _ head 1 a1,qq _ 4 ig _ head 2 (λj c hj=>by unfold head;rw[az om,az om]),Iy];rw[show(6:Nat)=1+(1+4) from rfl,AX head 0 1 (1+4),AX head (0+1) 1 4];by_cases h1:sc head 0 1 s=0
 ·rw[aA h1,aA h1];by_cases h2:sc head 1 1 (s.drop 1)=0
  ·rw[aA h2,aA h2];by_cases h3:sc head 2 4 ((s.drop 1).drop 1)=0
   ·rw[aA h3];exact h3.symm
   ·rw[az h3]
  ·rw[az h2,az h2]
 ·rw[az h1,az h1]
theorem NV (s)(n:Nat):Dt s [(n,iq),(8,ig)]=sc (body n) 6 (n+8) s:=by
 rw[qq s n iq _ (body n) 6 (λj c hj=>by unfold body;rw[aA om]),qq _ 8 ig _ (body n) (6+n) (λj c hj=>by unfold body;rw[az om]),Iy,AX (body n) 6 n 8];by_cases h1:sc (body n) 6 n s=0
 ·rw[aA h1,aA h1];by_cases h2:sc (body n) (6+n) 8 (s.drop n)=0
  ·rw[aA h2];exact h2.symm
  ·rw[az h2]
 ·rw[az h1,az h1]
def yY (s:ay):ay:=if vQ s.data.toList=0 then s.extract 6 (6+ix s.data.toList) else ByteArray.empty
theorem zL (s):(yY s).data.toList=XP s.data.toList:=by
 unfold yY XP
 split
 ·rw[gg]
 ·rfl
def Vh (k:UInt8)(b:ay):Value:=.agg #[I U (k.toNat:Int),C b]
def Jb:List (Nat×FuncId×(UInt8->Bool)):=[(1,355,pL),(1,265,isKind),(4,356,ig)]
def Jo (n:Nat):List (Nat×FuncId×(UInt8->Bool)):=[(n,267,iq),(8,356,ig)]
theorem Pv:yL Jb:=by
 intro x hx;simp[Jb] at hx;rcases hx with rfl | rfl | rfl
 ·exact⟨Gc,om⟩
 ·exact⟨Gd,om⟩
 ·exact⟨vB,om⟩
theorem QR (n:Nat)(h:n<=2000):yL (Jo n):=by
 intro x hx;simp[Jo] at hx;rcases hx with rfl | rfl
 ·exact⟨vA,h⟩
 ·exact⟨vB,om⟩
theorem sq (s:ay)(b:Nat)(w:World)(hs:s.size<=9223372036854775807)(hbw:b<w.heap.size)
 (h0:w.cell? ⟨b,0,E⟩=G (I J 1)) (h1:w.cell? ⟨b,1,E⟩=G (.func (.func 355) #[] #[])) (h2:w.cell? ⟨b,2,E⟩=G (I J 1))
 (h3:w.cell? ⟨b,3,E⟩=G (.func (.func 265) #[] #[])) (h4:w.cell? ⟨b,4,E⟩=G (I J 4)) (h5:w.cell? ⟨b,5,E⟩=G (.func (.func 356) #[] #[])):
 Calls prog 354 #[C s,Z (G ⟨b,0,E⟩) 3 3] w (yK (sc head 0 6 s.data.toList) w):=by
 rw[<-NT];refine Dr s b 3 Jb D om w hs Pv ⟨λj hj=>?_,λj hj=>?_⟩ hbw
 all_goals
  rcases(show j=0∨j=1∨j=2 by simp[Jb] at hj;omega) with rfl | rfl | rfl
 ·exact h0
 ·exact h2
 ·exact h4
 ·exact h1
 ·exact h3
 ·exact h5
theorem zA (s:ay)(n b:Nat)(hn:n<=2000)(w:World)(hs:s.size<=9223372036854775807)(hbw:b<w.heap.size)
 (h0:w.cell? ⟨b,0,E⟩=G (I J n)) (h1:w.cell? ⟨b,1,E⟩=G (.func (.func 267) #[] #[])) (h2:w.cell? ⟨b,2,E⟩=G (I J 8))
 (h3:w.cell? ⟨b,3,E⟩=G (.func (.func 356) #[] #[])):
 Calls prog 354 #[C s,Z (G ⟨b,0,E⟩) 2 2] w (yK (sc (body n) 6 (n+8) s.data.toList) w):=by
 rw[<-NV];refine Dr s b 2 (Jo n) D om w hs (QR n hn) ⟨λj hj=>?_,λj hj=>?_⟩ hbw
 all_goals
  rcases(show j=0∨j=1 by simp[Jo] at hj;omega) with rfl | rfl
 ·exact h0
 ·exact h2
 ·exact h1
 ·exact h3
def oz (s:ay)(w:World)(e:Ending)(w':World):Prop:=
 e= .returned (.tuple #[Vh (Rh s.data.toList) (yY s),I J (Ku s.data.toList),I J (vQ s.data.toList)])/\Below w.heap.size w w'
theorem nf (s:ay)(c:Nat)(w w':World)(h:vQ s.data.toList=c)(hc:c≠0)(hb:Below w.heap.size w w'):
 oz s w (.returned (.tuple #[.agg #[I U 0,ax],av,I J c])) w':=by
 refine⟨?_,hb⟩;have hn:¬vQ s.data.toList=0:=om;unfold Vh Rh yY Ku;rw[az hn,az hn,az hn,h];rfl
theorem Ou (s)(h:sc head 0 6 s≠0):vQ s=sc head 0 6 s:=by unfold vQ;rw[aA h]
theorem Ot (s)(h:sc head 0 6 s=0)(h2:2000<ix s):vQ s=44:=by unfold vQ;rw[az om,aA h2]
theorem Ov (s)(h:sc head 0 6 s=0)(h2:¬2000<ix s)(h3:sc (body (ix s)) 6 (ix s+8) (s.drop 6)≠0):vQ s=sc (body (ix s)) 6 (ix s+8) (s.drop 6):=by
 unfold vQ;rw[az om,az h2,aA h3]
theorem Tl (s)(h:sc head 0 6 s=0)(h2:¬2000<ix s)(h3:sc (body (ix s)) 6 (ix s+8) (s.drop 6)=0)
 (h4:(s.drop (6+ix s)).take 8≠hex 8 (tA ((s.take (6+ix s)).drop 1))):vQ s=45:=by
 unfold vQ;rw[az om,az h2,az om,aA h4]
theorem Oq (s)(h:sc head 0 6 s=0)(h2:¬2000<ix s)(h3:sc (body (ix s)) 6 (ix s+8) (s.drop 6)=0)
 (h4:(s.drop (6+ix s)).take 8=hex 8 (tA ((s.take (6+ix s)).drop 1))):vQ s=0:=by
 unfold vQ;rw[az om,az h2,az om,az (by simpa using h4)]
theorem vh (s)(h:sc head 0 6 s=0):6<=s.length/\Cv ((s.drop 2).take 4)=Q/\FF ((s.drop 2).take 4)=ix s/\ix s<65536:=by
 obtain⟨h1,h2⟩:=wj head 0 6 s h;have hd:me ((s.drop 2).take 4)=Q:=by
  unfold me;rw[bJ];intro x hx;obtain⟨i,hi,rfl⟩:=ab5.1 hx;have hi4:i<4:=by simp at hi;omega
  have:=h2 (2+i) om om;unfold head at this;rw[az om,az om] at this;simpa[Nat.zero_add] using this
 have hl:((s.drop 2).take 4).length=4:=by simp;omega
 have hB:Cv ((s.drop 2).take 4)=Q:=by unfold Cv;rw[hd,hl];rfl
 refine⟨h1,hB,by unfold FF;rw[hB];rfl,?_⟩;have:=(uJ _ 4 hd om om).1;exact this
structure jZ (T:TypeId)(w w1:World):Prop where
 block:w1.heap[w.heap.size]?=G (.cells #[I U 0,ax] T (0,0))
 below:Below w.heap.size w w1
theorem jZ.start (T)(w):jZ T w (w.alloc (.cells #[I U 0,ax] T)):=⟨heap_alloc_new _ _,(aa4 _ _).alloc (aB _) _⟩
theorem jZ.lt(h:jZ T w w1):w.heap.size<w1.heap.size:=by
 have hb:=h.block;by_cases hlt:w.heap.size<w1.heap.size
 ·exact hlt
 ·rw[bM om] at hb;cases hb
theorem jZ.step(h:jZ T w w1)(hb:Below w1.heap.size w1 w2):jZ T w w2:=
 ⟨(hb.block _ h.lt).trans h.block,h.below.trans (hb.mono h.below.size)⟩
theorem jZ.alloc(h:jZ T w w1)(o):jZ T w (w1.alloc o):=h.step ((aa4 _ _).alloc (aB _) o)
theorem jZ.cells(h:jZ T w w1):w1.cell? ⟨w.heap.size,0,E⟩=G (I U 0)/\w1.cell? ⟨w.heap.size,1,E⟩=G ax/\w1.frozen? ⟨w.heap.size,0,E⟩=z/\w1.frozen? ⟨w.heap.size,1,E⟩=z:=
 ⟨by rw[ab1 _ _ _ _ _ _ h.block];rfl,by rw[ab1 _ _ _ _ _ _ h.block];rfl,frozen_of_row _ _ _ _ _ h.block,frozen_of_row _ _ _ _ _ h.block⟩
theorem jZ.put(h:jZ T w w1)(a b:Value):((w1.setCell ⟨w.heap.size,0,E⟩ a).setCell ⟨w.heap.size,1,E⟩ b).heap[w.heap.size]?=G (.cells #[a,b] T (0,0))/\
 Below w.heap.size w ((w1.setCell ⟨w.heap.size,0,E⟩ a).setCell ⟨w.heap.size,1,E⟩ b):=by
 refine⟨?_,(h.below.setCell (aB _) _).setCell (aB _) _⟩;rw[heap_setCell_same _ _ _ _ _ _ (heap_setCell_same _ _ _ _ _ _ h.block)];rfl
theorem lN {P:Program}{fn:Func}{p a b:Tmp}{ty:TypeId}(h:fn.results=#[.cell p ty,.tmp a,.tmp b])(tmps:Array Value)(w:World)(g:Nat)(t:TypeId)(cs:Array Value)(fr:Nat×Nat)(d:TypeDesc)
 (hp:tmps.getD p undef= .pointer (G ⟨g,0,E⟩)) (hg:w.heap[g]?=G (.cells cs t fr))
 (hu:P.underlying ty=G d) (hd:(match d with | .struct _ | .array _ _=>Q | _=>z)=Q) (hi:(P.info? ty).map (·.size)=G cs.size):
 (results fn tmps).run P w= .ok (.tuple #[.agg cs,tmps.getD a undef,tmps.getD b undef]) w:=by
 have hp':tmps[p]?.getD undef= .pointer (G ⟨g,0,E⟩):=by simpa using hp
 simp[results,h,hp',asAddr,run_loadVar_row w g t ty cs fr d hg hu hd hi]
theorem lu:(prog.info? 217).map (·.size)=G 2:=kr
theorem Kz (s:ay)(w:World)(hs:s.size<=9223372036854775807)(g1:sc head 0 6 s.data.toList≠0):
 Calls prog 299 #[C s] w (oz s w):=by
 have hE:=Ou _ g1;obtain⟨HP,RH⟩:=eN (nf s _ w (h:=hE) (hc:=g1)) (sq s);obtain⟨e1,he1⟩:=fe (sc head 0 6 s.data.toList);rw[<-he1] at RH HP g1;clear hE he1;have ht:((e1:Int) != 0)=Q:=by rw[bne_iff_ne];omega
 go_enter func299,ntmps299
 go_wp2_with fail
 refine(RH _ _ hs sm sm sm sm sm sm sm).mono ?_;rintro e w1 ⟨r,rfl,hb1⟩;have hr:=((jZ.start 217 w).alloc _).step hb1;obtain⟨c0,c1,f0,f1⟩:=hr.cells
 go_wp2
 obtain⟨p1,p2⟩:=hr.put (I U 0) ax;exact aa1 (lN (p:=2) (a:=3) (b:=4) D _ _ _ _ _ _ _ D p1 underlying217 D lu) D (HP _ p2)
theorem ui (x:ay)(a:Nat):(x.extract a x.size).data.toList=x.data.toList.drop a:=by rw[gg,nG]
theorem WZ (s:ay)(h:6<=s.data.toList.length):6<=s.size:=by rw[eZ];exact h
theorem Ky (s:ay)(w:World)(hs:s.size<=9223372036854775807)(g1:sc head 0 6 s.data.toList=0)(g2:2000<ix s.data.toList):
 Calls prog 299 #[C s] w (oz s w):=by
 have hE:=Ot _ g1 g2;have HP:=H (nf s _ w (h:=hE) (hc:=by omega));have RH:=sq s;rw[g1] at RH;have RH:=H RH;obtain⟨d1,d2,d3,d4⟩:=vh _ g1;have h6:=WZ s d1;have UN:=oV (s.extract 2 6);rw[gg,cL,show(6:Nat) - 2=4 from rfl,d2,d3] at UN;have UN:=H UN;have hxs:(s.extract 2 6).size<=9223372036854775807:=by rw[extract_size];omega
 obtain⟨n,hn⟩:=fe (ix s.data.toList);rw[<-hn] at UN g2 d4;clear hE d2 d3 g1 hn
 go_enter func299,ntmps299
 go_wp2_with fail
 refine(RH _ _ hs sm sm sm sm sm sm sm).mono ?_;rintro e w1 ⟨r,rfl,hb1⟩;have hr:=((jZ.start 217 w).alloc _).step hb1;obtain⟨c0,c1,f0,f1⟩:=hr.cells
 go_wp2_with fail
 refine QS (UN _ hxs) ?_
 go_wp2
 obtain⟨p1,p2⟩:=hr.put (I U 0) ax;exact aa1 (lN (p:=2) (a:=3) (b:=4) D _ _ _ _ _ _ _ D p1 underlying217 D lu) D (HP _ p2)
theorem Kx (s:ay)(w:World)(hs:s.size<=9223372036854775807)(g1:sc head 0 6 s.data.toList=0)(g2:¬2000<ix s.data.toList)
 (g3:sc (body (ix s.data.toList)) 6 (ix s.data.toList+8) (s.data.toList.drop 6)≠0):
 Calls prog 299 #[C s] w (oz s w):=by
 have hE:=Ov _ g1 g2 g3;have HP:=H (nf s _ w (h:=hE) (hc:=g3));have RH:=sq s;rw[g1] at RH;have RH:=H RH;obtain⟨d1,d2,d3,d4⟩:=vh _ g1;have h6:=WZ s d1;have UN:=oV (s.extract 2 6);rw[gg,cL,show(6:Nat) - 2=4 from rfl,d2,d3] at UN;have UN:=H UN;have hxs:(s.extract 2 6).size<=9223372036854775807:=by rw[extract_size];omega
 have RB:=zA (s.extract 6 s.size);rw[ui] at RB;have hys:(s.extract 6 s.size).size<=9223372036854775807:=by rw[extract_size];omega
 obtain⟨n,hn⟩:=fe (ix s.data.toList);have RB:=RB n;rw[<-hn] at UN g2 d4 g3 HP;generalize sc (body n) 6 (n+8) (s.data.toList.drop 6)=e2 at*;have RB:=H RB;clear hE d2 d3 g1 hn;have ht:((e2:Int) != 0)=Q:=by rw[bne_iff_ne];omega
 go_enter func299,ntmps299
 go_wp2_with fail
 refine(RH _ _ hs sm sm sm sm sm sm sm).mono ?_;rintro e w1 ⟨r,rfl,hb1⟩;have hr:=((jZ.start 217 w).alloc _).step hb1
 go_wp2_with fail
 refine QS (UN _ hxs) ?_
 go_wp2_with fail
 refine(RB _ om _ hys sm sm sm sm sm).mono ?_;rintro e w2 ⟨r2,rfl,hb2⟩;have hr2:=(hr.alloc _).step hb2;clear hr;obtain⟨c0,c1,f0,f1⟩:=hr2.cells
 go_wp2
 obtain⟨p1,p2⟩:=hr2.put (I U 0) ax;exact aa1 (lN (p:=2) (a:=3) (b:=4) D _ _ _ _ _ _ _ D p1 underlying217 D lu) D (HP _ p2)
end
namespace SgM
open CrcM FrM
open Go
open Ds (fP qB jD yI lh)
structure Sg where
 k:UInt8
 n:Int
 deriving DecidableEq,Inhabited
theorem uQ {a b:Sg}(h:a.k=b.k)(h':a.n=b.n):a=b:=by cases a;cases b;simp at h h';rw[h,h']
def T7 (a b:Sg):Bool:=a.k==b.k&&a.n==b.n
theorem Jj {a b}:T7 a b=Q↔a=b:=by
 unfold T7;rw[aM,dq,dq];exact⟨λh=>uQ h.1 h.2,λh=>by rw[h];exact⟨D,D⟩⟩
theorem Qk (a):T7 a a=Q:=Jj.2 rfl
theorem Xm {a b}:T7 a b=z↔a≠b:=by rw[<-cS,Jj]
def Kr (k:UInt8):Bool:=decide (k.toNat=115)||decide (k.toNat=114)||decide (k.toNat=99)||decide (k.toNat=116)
def sw (s:Sg):Bool:=Kr s.k&&(decide (0<=s.n)&&decide (s.n<4294967296))
def Ec (s:Sg):List UInt8:=if sw s=Q then s.k::hex 8 s.n.toNat else []
def Cx (l:List UInt8):Bool:=decide (l.length=9)&&(Kr (l.getD 0 0)&&(l.drop 1).all ig)
def zS:Sg:=⟨0,0⟩
def Kt (l:List UInt8):Sg:=if Cx l=Q then⟨l.getD 0 0,(unhex (l.drop 1):Nat)⟩ else zS
theorem jJ {s}:sw s=Q↔Kr s.k=Q/\0<=s.n/\s.n<4294967296:=by
 unfold sw;rw[aM,aM,aN,aN]
theorem D9 {s}(h:sw s=Q):Ec s=s.k::hex 8 s.n.toNat:=by unfold Ec;rw[aA h]
theorem IK {s}(h:sw s=z):Ec s=[]:=by unfold Ec;rw[az aaL]
theorem tY {l}:Cx l=Q↔l.length=9/\Kr (l.getD 0 0)=Q/\(l.drop 1).all ig=Q:=by
 unfold Cx;rw[aM,aM,aN]
theorem DY {l}(h:Cx l=Q):Kt l=⟨l.getD 0 0,(unhex (l.drop 1):Nat)⟩:=by unfold Kt;rw[aA h]
theorem UY {l}(h:Cx l=z):Kt l=zS:=by unfold Kt;rw[az aaL]
theorem U6 {l}(h:Cx l=Q):sw (Kt l)=Q/\Ec (Kt l)=l:=by
 obtain⟨h1,h2,h3⟩:=tY.1 h;have hd:=bJ.1 h3;have hl:(l.drop 1).length=8:=by simp;omega
 have hu:=CQ (l.drop 1) hd;rw[hl] at hu;have hok:sw (Kt l)=Q:=by
  rw[DY h];exact jJ.2 ⟨h2,eJ,eJ⟩
 refine⟨hok,?_⟩;rw[D9 hok,DY h];simp only[Int.toNat_natCast];have:=Lj (l.drop 1) hd;rw[hl] at this;rw[this];cases l with
 | nil=>simp at h1
 | cons c r=>simp
theorem Ol {s}(h:sw s=Q):Cx (Ec s)=Q/\Kt (Ec s)=s:=by
 obtain⟨h1,h2,h3⟩:=jJ.1 h;have e:=D9 h;have hb:Cx (Ec s)=Q:=by
  rw[e];refine tY.2 ⟨by simp[gP],gM,?_⟩;rw[bJ];exact λc hc=>B7 8 _ c (by simpa using hc)
 refine⟨hb,?_⟩;rw[DY hb,e];refine uQ sm ?_;simp only[cn,cW];rw[zj 8 _ om];omega
theorem WI {a b}(ha:sw a=Q)(hb:sw b=Q)(h:Ec a=Ec b):a=b:=by
 rw[<-(Ol ha).2,h,(Ol hb).2]
def lt (a b:Sg):Bool:=decide (a.n<b.n)||(decide (a.n=b.n)&&decide (a.k.toNat<b.k.toNat))
theorem lt_iff {a b}:lt a b=Q↔a.n<b.n∨(a.n=b.n/\a.k.toNat<b.k.toNat):=by
 unfold lt;rw[bV,aM,aN,aN,aN]
theorem zQ {a b}:lt a b=z↔¬(a.n<b.n∨(a.n=b.n/\a.k.toNat<b.k.toNat)):=by rw[<-cS,lt_iff]
theorem Bu (a):lt a a=z:=zQ.2 om
theorem lt_trans {a b c}(h:lt a b=Q)(h':lt b c=Q):lt a c=Q:=by
 rw[lt_iff] at h h' ⊢;omega
theorem yi {a b:Sg}(h:a≠b):lt a b=Q∨lt b a=Q:=by
 rw[lt_iff,lt_iff];by_cases hn:a.n=b.n
 ·have hk:a.k.toNat≠b.k.toNat:=λe=>h (uQ (cE.1 e) hn);omega
 ·omega
def Cg (a b:Sg):Int:=if lt a b=Q then -1 else if lt b a=Q then 1 else 0
def Up (L:List Sg):Prop:=L.Pairwise λa b=>lt a b=Q
def vP (s:Sg):List Sg->List Sg
 | []=>[s]
 | g::r=>if lt s g=Q then s::g::r else if lt g s=Q then g::vP s r else g::r
theorem ye {s x:Sg}:∀ {L:List Sg},x∈vP s L↔x=s∨x∈L
 | []=>by simp[vP]
 | g::r=>by
   unfold vP;by_cases h1:lt s g=Q
   ·rw[aA h1];simp
   ·rw[az h1];by_cases h2:lt g s=Q
    ·rw[aA h2,aE,ye (L:=r),aE];constructor
     ·rintro(h | h | h)
      ·exact aI (aG h)
      ·exact aG h
      ·exact aI (aI h)
     ·rintro(h | h | h)
      ·exact aI (aG h)
      ·exact aG h
      ·exact aI (aI h)
    ·rw[az h2];have e:g=s:=Classical.byContradiction λhne=>by
      rcases yi hne with h | h
      ·exact h2 h
      ·exact h1 h
     rw[e];simp
theorem Hv {s}:∀ {L:List Sg},Up L->Up (vP s L)
 | [],_=>by simp[vP,Up]
 | g::r,h=>by
   obtain⟨h1,h2⟩:=aa3.1 h;unfold vP;by_cases a1:lt s g=Q
   ·rw[aA a1];refine aa3.2 ⟨λx hx=>?_,h⟩;rcases aE.1 hx with rfl | hr
    ·exact a1
    ·exact lt_trans a1 (h1 x hr)
   ·rw[az a1];by_cases a2:lt g s=Q
    ·rw[aA a2];refine aa3.2 ⟨λx hx=>?_,Hv h2⟩;rcases ye.1 hx with rfl | hr
     ·exact a2
     ·exact h1 x hr
    ·rw[az a2];exact h
theorem MH:∀ {L M:List Sg},Up L->Up M->(∀ x,x∈L↔x∈M)->L=M
 | [],[],_,_,_=>rfl
 | [],g::r,_,_,h=>by have:=(h g).2 sm;cases this
 | f::r,[],_,_,h=>by have:=(h f).1 sm;cases this
 | f::r,g::q,hL,hM,h=>by
   obtain⟨a1,a2⟩:=aa3.1 hL;obtain⟨b1,b2⟩:=aa3.1 hM;have e:f=g:=by
    rcases aE.1 ((h f).1 sm) with rfl | hf
    ·rfl
    ·rcases aE.1 ((h g).2 sm) with hg | hg
     ·exact hg.symm
     ·have x:=lt_trans (a1 g hg) (b1 f hf);rw[Bu] at x;cases x
   subst e
   congr 1
   refine MH a2 b2 λx=>?_;constructor
   ·intro hx;rcases aE.1 ((h x).1 aaA) with rfl | hx'
    ·have:=a1 x hx;rw[Bu] at this;cases this
    ·exact hx'
   ·intro hx;rcases aE.1 ((h x).2 aaA) with rfl | hx'
    ·have:=b1 x hx;rw[Bu] at this;cases this
    ·exact hx'
def uq (l:List Sg):List Sg:=l.foldl (λL s=>vP s L) []
theorem ME (l:List Sg):∀ L,Up L->Up (l.foldl (λL s=>vP s L) L)/\∀ x,x∈l.foldl (λL s=>vP s L) L↔x∈l∨x∈L:=by
 induction l with
 | nil=>intro L h;exact⟨h,λx=>by simp⟩
 | cons s r ih=>
  intro L h;obtain⟨h1,h2⟩:=ih (vP s L) (Hv h);refine⟨h1,λx=>?_⟩;rw[dj,h2 x,ye,aE];constructor
  ·rintro(h | h | h)
   ·exact aG (aI h)
   ·exact aG (aG h)
   ·exact aI h
  ·rintro((h | h) | h)
   ·exact aI (aG h)
   ·exact aG h
   ·exact aI (aI h)
theorem Yb (l):Up (uq l):=(ME l [] List.Pairwise.nil).1
theorem OS {l}{x:Sg}:x∈uq l↔x∈l:=by
 have:=(ME l [] List.Pairwise.nil).2 x;rw[show uq l=l.foldl (λL s=>vP s L) [] from rfl,this];simp
def YT (s:Sg):Bool:=decide (s.k.toNat=99)
def rS (s:Sg):Bool:=decide (s.k.toNat=115)||decide (s.k.toNat=114)
def xy (L:List Sg):Option Sg:=L.foldl (λo s=>if YT s=Q then G s else o) E
theorem Nk (L:List Sg)(s:Sg):xy (L++[s])=if YT s=Q then G s else xy L:=by
 unfold xy;rw[cX];rfl
def vR (o:Option Sg)(s:Sg):Bool:=match o with | none=>z | some t=>T7 s t
def Xg (o:Option Sg)(s:Sg):Bool:=match o with | none=>Q | some t=>decide (t.n<=s.n)
def uR (o:Option Sg)(s:Sg):Bool:=!vR o s&&(rS s&&Xg o s)
def sI (o:Option Sg)(s:Sg):Bool:=!vR o s&& !(rS s&&Xg o s)
def iT (L:List Sg)(o:Option Sg):List Sg:=L.filter (uR o)
def CW (L:List Sg)(o:Option Sg):List Sg:=L.filter (sI o)
def kept (L:List Sg):List Sg:=L.filter λs=>!sI (xy L) s
def Tj (has:Bool)(n0:Int)(qp:List Sg):Int:=qp.foldl (λn s=>max n (s.n+1)) (if has=Q/\qp=[] then n0 else 0)
end SgM
section
open Go.RowKit CrcM FrM
open Ds (fP qB jD yI lh)
theorem VT (a b:ay)(h:a.data.toList=b.data.toList):(a.toList==b.toList)=Q:=by rw[ByteArray.toList_eq,ByteArray.toList_eq,h];simp
theorem Na (a b:ay)(h:a.data.toList≠b.data.toList):(a.toList==b.toList)=z:=by rw[ByteArray.toList_eq,ByteArray.toList_eq,aX];exact h
theorem sD (k n:Nat):(vg k n).data.toList=hex k n:=by simp[vg]
theorem yZ (s:ay)(w:World)(n ar R:Nat)(hQ:ar=6+n)(hR:R=14+n)(h:vQ s.data.toList=0)(hn:n=ix s.data.toList)(h1:1<s.size)(w')(hb:Below w.heap.size w w'):
 oz s w (.returned (.tuple #[.agg #[I U (s[1].toNat:Int),C (s.extract 6 ar)],I J (R:Nat),av])) w':=by
 subst hQ hR;have e1:Rh s.data.toList=s[1]:=by
  unfold Rh;rw[aA h,db,aW (by rw[<-eZ];exact h1)];rfl
 have e2:yY s=s.extract 6 (6+n):=by unfold yY;rw[aA h,hn]
 have e3:Ku s.data.toList=14+n:=by unfold Ku;rw[aA h,hn]
 refine⟨?_,hb⟩;unfold Vh;rw[e1,e2,e3,h];rfl
theorem Kw (s:ay)(w:World)(hs:s.size<=9223372036854775807)(g1:sc head 0 6 s.data.toList=0)(g2:¬2000<ix s.data.toList)
 (g3:sc (body (ix s.data.toList)) 6 (ix s.data.toList+8) (s.data.toList.drop 6)=0):
 Calls prog 299 #[C s] w (oz s w):=by
 have RH:=sq s;rw[g1] at RH;replace RH:=H RH;obtain⟨d1,d2,d3,d4⟩:=vh _ g1;have h6:=WZ s d1;have UN:=oV (s.extract 2 6);rw[gg,cL,show(6:Nat) - 2=4 from rfl,d2,d3] at UN;replace UN:=H UN;have hxs:(s.extract 2 6).size<=9223372036854775807:=by rw[extract_size];omega
 have RB:=zA (s.extract 6 s.size);rw[ui] at RB;have hys:(s.extract 6 s.size).size<=9223372036854775807:=by rw[extract_size];omega
 have hlen:=(wj _ _ _ _ g3).1;have hlen:14+ix s.data.toList<=s.size:=by rw[eZ];rw[bm] at hlen;omega
 obtain⟨G1,G2,G3⟩:=gi g1 g2 g3;obtain⟨n,hn,HN⟩:=nh (ix s.data.toList);replace RB:=RB n;rw[<-hn] at UN g2 d4 g3 hlen;rw[g3] at RB;replace RB:=H RB;have htx:(s.extract 1 (6+n)).size<=9223372036854775807:=by rw[extract_size];omega
 clear d2 d3 g1 g3 hn;have i0:(0:Int)<=(n:Int):=om;have i1:(14:Int)+n<=(s.size:Int):=om;have i2:(n:Int)<=2000:=om
 go_enter func299,ntmps299
 go_wp2_with fail
 refine(RH _ _ hs sm sm sm sm sm sm sm).mono ?_;rintro e w1 ⟨r,rfl,hb1⟩;have hr:=((jZ.start 217 w).alloc _).step hb1
 go_wp2_with fail
 refine QS (UN _ hxs) ?_
 go_wp2_with fail
 refine(RB _ om _ hys sm sm sm sm sm).mono ?_;rintro e w2 ⟨r2,rfl,hb2⟩;have hr2:=(hr.alloc _).step hb2;clear hr
 go_wp2_with fail
 obtain⟨ar,hQ⟩:=fe (6+n);obtain⟨R,hR⟩:=fe (14+n);rw[show(6:Int)+n=(ar:Int) by omega];rw[<-hQ] at htx;have v1:IntKind.i64.wrap ((ar:Int)+8)=R:=by rw[IntWalk.i64_in _ om];omega
 have v2:(0:Int)<=(ar:Int):=om;have v3:(1:Int)<=(ar:Int):=om;have v4:(ar:Int)<=R:=om;have v5:(R:Int)<=(s.size:Int):=om;have v6:(ar:Int)<=(s.size:Int):=om;have v7:(0:Int)<=(R:Int):=om;obtain⟨HQ,HR⟩:=eN hQ hR;clear hQ hR;obtain⟨T,hT⟩:=fe (vg 8 (tA (s.extract 1 ar).data.toList));have TX:∀ (b:Nat) (W:World),W.cell? ⟨b,0,E⟩=G (C (s.extract 1 ar))->Calls prog 268 #[Z (G ⟨b,0,E⟩) 1 1] W λe w'=>e= .returned (C T)/\Below W.heap.size W w':=by
  intro b W h;rw[hT];exact C5 b _ W htx h
 replace TX:=H TX;have HT:=H hT;clear hT
 go_region_held3 (λw'=>Below w2.heap.size w2 w')
  (first | exact kE | exact Below.alloc ms (Below.size ms) _ | exact Below.trans ms (hb3.mono (Below.size ms)) | exact ms)
  (first | (go_at_call 268;refine qx (TX _ _ sm) λw3 hb3=>?_) | fail)
 have hr3:=hr2.step (by assumption:Below w2.heap.size w2 w3);obtain⟨c0,c1,f0,f1⟩:=hr3.cells;generalize hbq:(!((s.extract ar R).toList==T.toList))=Bq;have hdec:if Bq=z then(s.extract ar R).data.toList=T.data.toList else(s.extract ar R).data.toList≠T.data.toList:=by
  by_cases heq:(s.extract ar R).data.toList=T.data.toList
  ·rw[VT _ _ heq] at hbq;rw[<-hbq];exact heq
  ·rw[Na _ _ heq] at hbq;rw[<-hbq];exact heq
 clear hbq;cases Bq with
 | false=>
  have heq:(s.extract ar R).data.toList=T.data.toList:=hdec;clear hdec;have hx:(s.data.toList.drop (6+ix s.data.toList)).take 8=hex 8 (tA ((s.data.toList.take (6+ix s.data.toList)).drop 1)):=by
   rw[<-HN.out,<-HQ.out,<-gg,<-sD,<-HT.out,<-heq,gg,cL]
   congr 1
   have:=HQ.out;have:=HR.out;omega
  have HE:=H (Oq _ G1 G2 G3 hx);clear hx heq;have q1:(1:Int)<(s.size:Int):=om;have q2:(6:Int)<=(ar:Int):=by have:=HQ.out;omega
  have h1:1<s.size:=om
  go_wp2
  have HG:=H (yZ s w n ar R HQ HR HE HN h1)
  go_region
  go_wp2
  obtain⟨p1,p2⟩:=hr3.put (I U (s[1].toNat:Int)) (C (s.extract 6 ar));exact aa1 (lN (p:=2) (a:=3) (b:=4) D _ _ _ _ _ _ _ D p1 underlying217 D lu) D (HG _ p2.drew)
 | true=>
  have heq:(s.extract ar R).data.toList≠T.data.toList:=hdec;clear hdec;have hx:(s.data.toList.drop (6+ix s.data.toList)).take 8≠hex 8 (tA ((s.data.toList.take (6+ix s.data.toList)).drop 1)):=by
   intro hx;apply heq;rw[<-HN.out,<-HQ.out,<-gg,<-sD,<-HT.out] at hx;rw[<-hx,gg,cL]
   congr 1
   have:=HQ.out;have:=HR.out;omega
  have HP:=H (nf s 45 w (h:=Tl _ G1 G2 G3 hx) (hc:=by omega));clear hx heq
  go_wp2
  obtain⟨p1,p2⟩:=hr3.put (I U 0) ax;exact aa1 (lN (p:=2) (a:=3) (b:=4) D _ _ _ _ _ _ _ D p1 underlying217 D lu) D (HP _ p2)
theorem qF (s:ay)(w)(hs:s.size<=9223372036854775807):Calls prog 299 #[C s] w (oz s w):=by
 by_cases g1:sc head 0 6 s.data.toList=0
 ·by_cases g2:2000<ix s.data.toList
  ·exact Ky s w hs g1 g2
  ·by_cases g3:sc (body (ix s.data.toList)) 6 (ix s.data.toList+8) (s.data.toList.drop 6)=0
   ·exact Kw s w hs g1 g2 g3
   ·exact Kx s w hs g1 g2 g3
 ·exact Kz s w hs g1
def bytesOf (l:List UInt8):ay:=⟨l.toArray⟩
theorem kN (l):(bytesOf l).data.toList=l:=by simp[bytesOf]
theorem Ch (l):(bytesOf l).size=l.length:=by show l.toArray.size=_;simp
theorem lv {b:ay}(h:a.data.toList=b.data.toList):a=b:=by
 apply dE;exact Array.toList_inj.1 h
theorem mN (a b:ay):(a++b).data.toList=a.data.toList++b.data.toList:=by rw[dd];simp
def rT (k:UInt8)(b:ay):ay:=bytesOf (inner k b.data.toList)
def xb (k:UInt8)(b:ay):ay:=bytesOf (whole k b.data.toList)
def Bj (k:UInt8)(b:ay):ay:=bytesOf (qj k b.data.toList)
theorem Pj (k:UInt8)(b:ay):(⟨#[k]⟩++vg 4 b.size)++b=rT k b:=by
 apply lv;rw[mN,mN,sD,rT,kN,eZ];simp[inner]
theorem MB (k:UInt8)(b):(⟨#[254]⟩++rT k b)++vg 8 (tA (rT k b).data.toList)=xb k b:=by
 apply lv;rw[mN,mN,sD,rT,xb,kN,kN];simp[whole]
theorem Ew (k:UInt8)(b):(rT k b).size=5+b.size:=by
 rw[rT,Ch,eZ];simp[inner,gP];omega
theorem Ce (c:UInt8)(g:Nat)(w:World)(h:w.cell? ⟨g,0,E⟩=G (I U c.toNat)):
 (convert 203 9 (Z (G ⟨g,0,E⟩) 1 1)).run prog w= .ok (C ⟨#[c]⟩) w:=by
 have:=run_convert_bytes_back (P:=prog) w 203 9 _ ⟨g,0,E⟩ 1 [c] sh FZ sV (λj hj=>by
  obtain rfl:j=0:=by simp at hj;exact hj
  simpa[Addr.add] using h)
 exact this
def sd (k:UInt8)(b:ay)(w:World)(e:Ending)(w':World):Prop:=
 e= .returned (.tuple #[C (Bj k b),I J (DF k b.data.toList)])/\Below w.heap.size w w'
theorem pI (k:UInt8)(b:ay)(c:Nat)(w w':World)(h:DF k b.data.toList=c)(hc:c≠0)(hb:Below w.heap.size w w'):
 sd k b w (.returned (.tuple #[ax,I J c])) w':=by
 refine⟨?_,hb⟩;unfold Bj qj;rw[az om,h];rfl
theorem DR (k:UInt8)(b:ay)(w w':World)(h:DF k b.data.toList=0)(hb:Below w.heap.size w w'):
 sd k b w (.returned (.tuple #[C (xb k b),av])) w':=by
 refine⟨?_,hb⟩;unfold Bj qj xb;rw[aA h,h];rfl
theorem eT (w:World)(o):Below w.heap.size w (w.alloc o):=(aa4 _ _).alloc (aB _) o
theorem sM {P:Program}{md:Region.Mode}{ops:Array Oper}{ar:Exit->Act->World->Prop}{S S':World->Prop}(h:∀ w,S' w->S w):
 ∀ {fuel:Nat} {listed:Array Bool} {a:Act} {w:World},wpAnyH P md ops ar S' fuel listed a w->wpAnyH P md ops ar S fuel listed a w
 | 0,_,_,_,ah=>ah
 | _+1,_,_,_,ah=>⟨ah.1,λi hi=>wpOp_mono (λ_ _ h'=>⟨h _ h'.1,sM h h'.2⟩) (ah.2 i hi)⟩
theorem jG {P:Program}{md:Region.Mode}{ops:Array Oper}{ar:Exit->Act->World->Prop}{S:World->Prop}{listed:Array Bool}{a:Act}(p:Addr)(v:Value)
 (hS:S w) (hc:w.cell? p=G v) (ah:(S w/\w.cell? p=G v)->wpAnyH P md ops ar (λw'=>S w'/\w'.cell? p=G v) fuel listed a w):wpAnyH P md ops ar S fuel listed a w:=
 sM (λ_ h=>h.1) (ah ⟨hS,hc⟩)
theorem kz(h:Below W.heap.size W w)(hb:Below w.heap.size w w'):Below W.heap.size W w':=h.trans (hb.mono h.size)
theorem mW {A A':Prop}{p}{v}(h:A/\w.cell? p=G v)(hb:Below w.heap.size w w')(hS:A'):A'/\w'.cell? p=G v:=
 ⟨hS,(hb.cell (block_lt_of_cell h.2)).trans h.2⟩
theorem DP (k:UInt8)(b:ay)(w:World)(hb:b.size<=9223372036854775807):
 Calls prog 211 #[Vh k b] w (sd k b w):=by
 have hbl:=eZ b;have HBL:=H hbl;clear hbl;unfold Vh;cases hk:isKind k with
 | false=>
  have HP:=H (pI k b 40 w (h:=by unfold DF;rw[aA hk]) (hc:=by omega));have KA:=yl k;rw[hk] at KA;replace KA:=H KA;clear hk;exact rH
 | true=>
  have KA:=yl k;rw[hk] at KA;replace KA:=H KA;have HK:=H hk;clear hk;by_cases hlong:2000<b.size
  ·have HP:=H (pI k b 41 w (h:=by unfold DF;rw[az (by rw[HK.out];decide),aA (by rw[<-HBL.out];exact hlong)]) (hc:=by omega));exact rH
  ·have WA:=zi b _ _ vA;cases hp:b.data.toList.all iq with
   | false=>
    rw[hp] at WA;replace WA:=H WA;have HP:=H (pI k b 42 w (h:=by unfold DF;rw[az (by rw[HK.out];decide),az (by rw[<-HBL.out];exact hlong),aA hp]) (hc:=by omega));clear hp
    go_enter func211,ntmps211
    go_wp2_with (first | (go_at_call 265;refine QS (KA _) ?_) | (go_at_call 266;refine qx (WA _ hb) λw1 hb1=>?_))
    go_ret2
    exact HP _ ((eT _ _).trans (hb1.mono sm))
   | true=>
    rw[hp] at WA;replace WA:=H WA;have HP:=H (DR k b w (h:=by unfold DF;rw[az (by rw[HK.out];decide),az (by rw[<-HBL.out];exact hlong),az (by rw[hp];decide)]));clear hp;obtain⟨aj,hC⟩:∃ aj:ay,aj=⟨#[k]⟩:=⟨_,D⟩;obtain⟨M,hM⟩:∃ M:ay,M=⟨#[254]⟩:=⟨_,D⟩;obtain⟨ah,hH⟩:∃ ah:ay,ah=vg 4 b.size:=⟨_,D⟩;obtain⟨ae,hI⟩:∃ ae:ay,ae=rT k b:=⟨_,D⟩;have hcv:=Ce k;have hcm:=Ce 254;rw[<-hC] at hcv;rw[show((254:UInt8).toNat:Int)=254 from rfl,<-hM] at hcm;have hC1:aj.size<=1:=by rw[hC];exact aB 1
    have hM0:M.size<=1:=by rw[hM];exact aB 1
    have hH1:ah.size<=4:=by rw[hH,zY];exact aB 4
    have HX:=I9 b.size 4;rw[zX 4 b.size om,<-hH] at HX;replace HX:=H HX;have EI:=H (show aj++ah++b=ae by rw[hC,hH,hI];exact Pj k b);have hI1:ae.size<=2005:=by rw[hI,Ew];omega
    have TX:∀ (g:Nat) (W:World),W.cell? ⟨g,0,E⟩=G (C ae)->Calls prog 268 #[Z (G ⟨g,0,E⟩) 1 1] W λe w'=>e= .returned (C (vg 8 (tA ae.data.toList)))/\Below W.heap.size W w':=by
     intro g W h;exact C5 g ae W om h
    obtain⟨T,hT⟩:∃ T:ay,T=vg 8 (tA ae.data.toList):=⟨_,D⟩;rw[<-hT] at TX;replace TX:=H TX;have hT0:T.size<=8:=by rw[hT,zY];exact aB 8
    have EW:=H (show M++ae++T=xb k b by rw[hM,hT,hI];exact MB k b);clear hC hM hH hI hT
    go_enter func211,ntmps211
    go_wp2_with (first | (go_at_call 265;refine QS (KA _) ?_) | (go_at_call 266;refine qx (WA _ hb) λw1 hb1=>?_))
    have k0:w1.cell? ⟨w.heap.size,0,E⟩=G (I U k.toNat):=by rw[hb1.cell sm];simp
    have k1:w1.cell? ⟨w.heap.size,1,E⟩=G (C b):=by rw[hb1.cell sm];simp
    have hs1:w.heap.size<w1.heap.size:=by have:=hb1.size;simp at this;omega
    have hbw:Below w.heap.size w w1:=(eT _ _).trans (hb1.mono sm);refine ab8 ?_;refine ab3 (S:=λw'=>((Below w1.heap.size w1 w')/\w'.cell? ⟨w.heap.size,0,E⟩=G (I U k.toNat))/\w'.cell? ⟨w.heap.size,1,E⟩=G (C b)) kr ⟨⟨kE,k0⟩,k1⟩ (λhS=>?_);refine aa5 (i:=0) (v:=.pointer (G ⟨w.heap.size,0,E⟩)) D kr kr kr (λ_ _ _ h=>h) (aG ⟨by rfl,λwx hSx=>?_⟩) hS ?_
    ·exact fM
    simp only[Act.put,gz,gy];refine aa5 (i:=1) (v:=I U k.toNat) D kr kr kr (λ_ _ _ h=>h) (aG ⟨by rfl,λwx hSx=>?_⟩) hS ?_
    ·exact fM
    simp only[Act.put,gz,gy];refine aa5 (i:=4) (v:=.pointer (G ⟨w.heap.size,1,E⟩)) D kr kr kr (λ_ _ _ h=>h) (aG ⟨by rfl,λwx hSx=>?_⟩) hS ?_
    ·exact fM
    simp only[Act.put,gz,gy];refine aa5 (i:=5) (v:=C b) D kr kr kr (λ_ _ _ h=>h) (aG ⟨by rfl,λwx hSx=>?_⟩) hS ?_
    ·exact fM
    simp only[Act.put,gz,gy];refine aa5 (i:=6) (v:=I J b.size) D kr kr kr (λ_ _ _ h=>h) (aG ⟨by rfl,λwx hSx=>?_⟩) hS ?_
    ·exact fM
    simp only[Act.put,gz,gy];refine aa5 (i:=9) (v:=.pointer (G ⟨w.heap.size,1,E⟩)) D kr kr kr (λ_ _ _ h=>h) (aG ⟨by rfl,λwx hSx=>?_⟩) hS ?_
    ·exact fM
    simp only[Act.put,gz,gy];refine aa5 (i:=10) (v:=C b) D kr kr kr (λ_ _ _ h=>h) (aG ⟨by rfl,λwx hSx=>?_⟩) hS ?_
    ·exact fM
    simp only[Act.put,gz,gy];refine Wj 2 7 (λK hK=>?_) λK hK=>?_;have tg1:Tg 0:=⟨⟩;rotate_left;have tg1:Tg 1:=⟨⟩;rotate_left
    all_goals
     simp only[gz];go_simp
    refine hK _ _ (mW hS fy (mW hS.1 fy (kz hS.1.1 fy))) (λhS0=>?_);rotate_left;refine qx (HX _ om om om) λw2 hw2=>?_;refine hK _ _ (mW hS hw2 (mW hS.1 hw2 (kz hS.1.1 hw2))) (λhS0=>?_);rotate_left
    all_goals
     clear hK
    refine jG ⟨w1.heap.size,0,E⟩ (I U k.toNat) hS0 sm (λhS1=>?_);rotate_left
    focus
     refine vO 2 λK hK=>?_;simp only[gz];go_simp;refine hK _ _ (mW hS0 fy (mW hS0.1 fy (kz hS0.1.1 fy))) (λhS1=>?_);refine jG ⟨w2.heap.size,0,E⟩ (I U k.toNat) hS1 sm (λhS2=>?_)
    rotate_left
    all_goals
     first
      | have _:Tg 1:=tg1
        refine aa5 (i:=3) (v:=C aj) D kr kr kr (λ_ _ _ h=>h) (aG ⟨by rfl,λwx hSx=>?_⟩) hS2 ?_
      | refine aa5 (i:=3) (v:=C aj) D kr kr kr (λ_ _ _ h=>h) (aG ⟨by rfl,λwx hSx=>?_⟩) hS1 ?_
     ·go_simp<;>(first | with_reducible rfl | omega)
     simp only[Act.put,gz,gy]
     first
      | have _:Tg 1:=tg1
        skip
      | refine vO 7 λK hK=>?_
        simp only[gz];go_simp;refine qx (HX _ om om om) λw2 hw2=>?_;refine hK _ _ (mW hS1 hw2 (mW hS1.1 hw2 (mW hS1.1.1 hw2 (kz hS1.1.1.1 hw2)))) (λhS2=>?_)
     refine aa5 (i:=8) (v:=C (aj++ah)) D kr kr kr (λ_ _ _ h=>h) (aG ⟨by rfl,λwx hSx=>?_⟩) hS2 ?_
     ·go_simp<;>(first | with_reducible rfl | omega)
     simp only[Act.put,gz,gy];refine aa5 (i:=11) (v:=C (aj++ah++b)) D kr kr kr (λ_ _ _ h=>h) (aG ⟨by rfl,λwx hSx=>?_⟩) hS2 ?_
     ·go_simp<;>(first | with_reducible rfl | omega)
     simp only[Act.put,gz,gy];refine aa5 (i:=12) (v:=C (aj++ah++b)) D kr kr kr (λ_ _ _ h=>h) (aG ⟨by rfl,λwx hSx=>?_⟩) hS2 ?_
     ·go_simp<;>(first | with_reducible rfl | omega)
     simp only[Act.put,gz,gy];refine Vj ?_;rw[EI.out];have hbW:=kz hbw hS2.1.1.1
     first
      | have _:Tg 1:=tg1
        obtain⟨w3,hw3⟩:=fe (w2.alloc (.cells #[I U k.toNat] 5));rw[<-hw3] at hbW ⊢;clear hw3
      | skip
     go_wp2_with fail
     refine ab8 ?_
     first
      | have _:Tg 1:=tg1
        refine ab3 (S:=λw'=>Below w3.heap.size w3 w') kr kE (λhS=>?_)
      | refine ab3 (S:=λw'=>Below w2.heap.size w2 w') kr kE (λhS=>?_)
     refine aa5 (i:=2) (v:=C ae) D kr kr kr (λ_ _ _ h=>h) (aG ⟨by rfl,λwx hSx=>?_⟩) hS ?_
     ·go_simp<;>(first | with_reducible rfl | omega)
     simp only[Act.put,gz,gy];refine aa5 (i:=4) (v:=C ae) D kr kr kr (λ_ _ _ h=>h) (aG ⟨by rfl,λwx hSx=>?_⟩) hS ?_
     ·go_simp<;>(first | with_reducible rfl | omega)
     simp only[Act.put,gz,gy];refine Wj 0 5 (λK hK=>?_) λK hK=>?_
     ·simp only[gz];go_simp;refine hK _ _ (kz hS fy) (λhS0=>?_)
      first
       | have _:Tg 1:=tg1
         refine jG ⟨w3.heap.size,0,E⟩ (I U 254) hS0 sm (λhS1=>?_)
       | refine jG ⟨w2.heap.size,0,E⟩ (I U 254) hS0 sm (λhS1=>?_)
      refine aa5 (i:=1) (v:=C M) D kr kr kr (λ_ _ _ h=>h) (aG ⟨by rfl,λwx hSx=>?_⟩) hS1 ?_
      ·exact fM
      simp only[Act.put,gz,gy];refine aa5 (i:=3) (v:=C (M++ae)) D kr kr kr (λ_ _ _ h=>h) (aG ⟨by rfl,λwx hSx=>?_⟩) hS1 ?_
      ·exact fM
      simp only[Act.put,gz,gy];refine vO 5 λK hK=>?_;simp only[gz];go_simp;refine hK _ _ (mW hS1 fy (kz hS1.1 fy)) (λhS2=>?_);refine vO 6 λK hK=>?_;simp only[gz];go_simp;refine qx (TX _ _ sm) λw5 hw5=>?_;refine hK _ _ (mW hS2 hw5 (kz hS2.1 hw5)) (λhS3=>?_);refine aa5 (i:=7) (v:=C (M++ae++T)) D kr kr kr (λ_ _ _ h=>h) (aG ⟨by rfl,λwx hSx=>?_⟩) hS3 ?_
      ·exact fM
      simp only[Act.put,gz,gy];refine aa5 (i:=8) (v:=C (M++ae++T)) D kr kr kr (λ_ _ _ h=>h) (aG ⟨by rfl,λwx hSx=>?_⟩) hS3 ?_
      ·exact fM
      simp only[Act.put,gz,gy];refine aa5 (i:=9) (v:=I J 0) D kr kr kr (λ_ _ _ h=>h) (aG ⟨by rfl,λwx hSx=>?_⟩) hS3 ?_
      ·exact fM
      simp only[Act.put,gz,gy];refine Vj ?_;rw[EW.out]
      go_wp2
      go_ret2
      exact HP _ (kz hbW hS3.1)
     ·simp only[gz];go_simp;refine hK _ _ (kz hS fy) (λhS0=>?_)
      first
       | have _:Tg 1:=tg1
         refine jG ⟨w3.heap.size,0,E⟩ (C ae) hS0 sm (λhS1=>?_)
       | refine jG ⟨w2.heap.size,0,E⟩ (C ae) hS0 sm (λhS1=>?_)
      refine Wj 0 6 (λK hK=>?_) λK hK=>?_;have tg0:Tg 0:=⟨⟩;rotate_left;have tg0:Tg 1:=⟨⟩;rotate_left
      all_goals
       simp only[gz];go_simp
      refine hK _ _ (mW hS1 fy (kz hS1.1 fy)) (λhS2=>?_);rotate_left;refine qx (TX _ _ sm) λw5 hw5=>?_;refine hK _ _ (mW hS1 hw5 (kz hS1.1 hw5)) (λhS2=>?_);rotate_left
      all_goals
       clear hK
      first
       | have _:Tg 1:=tg1
         refine jG ⟨w3.heap.size+1,0,E⟩ (I U 254) hS2 sm (λhS3=>?_)
       | refine jG ⟨w2.heap.size+1,0,E⟩ (I U 254) hS2 sm (λhS3=>?_)
      rotate_left
      focus
       refine vO 0 λK hK=>?_;simp only[gz];go_simp;refine hK _ _ (mW hS2 fy (kz hS2.1 fy)) (λhS3=>?_);refine jG ⟨w5.heap.size,0,E⟩ (I U 254) hS3 sm (λhS4=>?_)
      rotate_left
      all_goals
       first
        | have _:Tg 1:=tg0
          refine aa5 (i:=1) (v:=C M) D kr kr kr (λ_ _ _ h=>h) (aG ⟨by rfl,λwx hSx=>?_⟩) hS4 ?_
        | refine aa5 (i:=1) (v:=C M) D kr kr kr (λ_ _ _ h=>h) (aG ⟨by rfl,λwx hSx=>?_⟩) hS3 ?_
       ·go_simp<;>(first | with_reducible rfl | omega)
       simp only[Act.put,gz,gy]
       first
        | have _:Tg 1:=tg0
          refine aa5 (i:=3) (v:=C (M++ae)) D kr kr kr (λ_ _ _ h=>h) (aG ⟨by rfl,λwx hSx=>?_⟩) hS4 ?_
        | refine aa5 (i:=3) (v:=C (M++ae)) D kr kr kr (λ_ _ _ h=>h) (aG ⟨by rfl,λwx hSx=>?_⟩) hS3 ?_
       ·go_simp<;>(first | with_reducible rfl | omega)
       simp only[Act.put,gz,gy]
       first
        | have _:Tg 1:=tg0
          skip
        | refine vO 6 λK hK=>?_
          simp only[gz];go_simp;refine qx (TX _ _ sm) λw5 hw5=>?_;refine hK _ _ (mW hS3 hw5 (mW hS3.1 hw5 (kz hS3.1.1 hw5))) (λhS4=>?_)
       refine aa5 (i:=7) (v:=C (M++ae++T)) D kr kr kr (λ_ _ _ h=>h) (aG ⟨by rfl,λwx hSx=>?_⟩) hS4 ?_
       ·go_simp<;>(first | with_reducible rfl | omega)
       simp only[Act.put,gz,gy];refine aa5 (i:=8) (v:=C (M++ae++T)) D kr kr kr (λ_ _ _ h=>h) (aG ⟨by rfl,λwx hSx=>?_⟩) hS4 ?_
       ·go_simp<;>(first | with_reducible rfl | omega)
       simp only[Act.put,gz,gy];refine aa5 (i:=9) (v:=I J 0) D kr kr kr (λ_ _ _ h=>h) (aG ⟨by rfl,λwx hSx=>?_⟩) hS4 ?_
       ·go_simp<;>(first | with_reducible rfl | omega)
       simp only[Act.put,gz,gy];refine Vj ?_;rw[EW.out]
       go_wp2
       go_ret2
       exact HP _ (kz hbW hS4.1.1)
end
namespace SgM
open Go Go.RowKit CrcM FrM
open Ds (fP qB jD yI lh)
def Io (s:Sg):Value:=.agg #[I U (s.k.toNat:Nat),I J s.n]
def fS (s:Sg):ay:=bytesOf (Ec s)
theorem nL (s):(fS s).data.toList=Ec s:=kN _
def In64 (n:Int):Prop:=-9223372036854775808<=n/\n<=9223372036854775807
theorem G0 (k:UInt8):Lib.indexByte [115,114,99,116] k=if k=115 then 0 else if k=114 then 1 else if k=99 then 2 else if k=116 then 3 else -1:=by
 by_cases h1:k=115
 ·subst h1;decide
 by_cases h2:k=114
 ·subst h2;decide
 by_cases h3:k=99
 ·subst h3;decide
 by_cases h4:k=116
 ·subst h4;decide
 rw[az h1,az h2,az h3,az h4];simp[Lib.indexByte,Ne.symm h1,Ne.symm h2,Ne.symm h3,Ne.symm h4]
theorem UX {k:UInt8}:Kr k=Q↔k=115∨k=114∨k=99∨k=116:=by
 unfold Kr;rw[bV,bV,bV,aN,aN,aN,aN];rw[<-cE,<-cE,<-cE,<-cE];simp[or_assoc]
theorem Pr (k:UInt8):decide (Lib.indexByte [115,114,99,116] k<0)= !Kr k:=by
 rw[G0];by_cases h:Kr k=Q
 ·rw[h];rcases UX.1 h with rfl | rfl | rfl | rfl<;>decide
 ·have h':=h;rw[UX] at h';simp only[bN] at h';rw[az h'.1,az h'.2.1,az h'.2.2.1,az h'.2.2.2];have:Kr k=z:=by simpa using h
  rw[this];decide
theorem ji (s:Sg)(w:World)(hn:In64 s.n):
 Calls prog 100 #[Io s] w λe w'=>e= .returned (C (fS s))/\Below w.heap.size w w':=by
 obtain⟨k,n⟩:=s;obtain⟨hn1,hn2⟩:=hn;simp only at hn1 hn2;by_cases hneg:n<0
 ·have HF:=H (show fS ⟨k,n⟩=⟨#[]⟩ by
   have:sw ⟨k,n⟩=z:=by rw[<-cS,jJ];simp only;omega
   unfold fS;rw[IK this];rfl)
  go_enter func100,ntmps100
  unfold Io
  go_wp2_with (go_at_call 166;refine QS (TQ n 8 _ om om hneg) ?_)
  go_ret;exact⟨fv,eT _ _⟩
 obtain⟨m,rfl⟩:∃ m:Nat,n=m:=⟨n.toNat,om⟩;by_cases hbig:4294967296<=m
 ·have HF:=H (show fS ⟨k,(m:Int)⟩=⟨#[]⟩ by
   have:sw ⟨k,(m:Int)⟩=z:=by rw[<-cS,jJ];simp only;omega
   unfold fS;rw[IK this];rfl)
  go_enter func100,ntmps100
  unfold Io
  go_wp2_with (go_at_call 166;refine QS (Ez m 8 _ om om hbig om) ?_)
  go_ret;exact⟨fv,eT _ _⟩
 ·have hm:m<16 ^ 8:=om;obtain⟨HL,HI⟩:=eN (gP 8 m) (Pr k);by_cases hk:Kr k=Q
  ·have HF:=H (show fS ⟨k,(m:Int)⟩=⟨#[k]⟩++⟨(hex 8 m).toArray⟩ by
    have:sw ⟨k,(m:Int)⟩=Q:=by rw[jJ];exact⟨hk,eJ,eJ⟩
    unfold fS;rw[D9 this];apply lv;rw[mN,kN];simp)
   obtain⟨aj,hC⟩:∃ aj:ay,aj=⟨#[k]⟩:=⟨_,D⟩;have hcv:=Ce k;rw[<-hC] at HF hcv;have hC1:aj.size<=1:=by rw[hC];exact aB 1
   have hE:(hex 8 m).isEmpty=z:=by cases h:hex 8 m with | nil=>rw[h] at HL;cases HL.out | cons=>rfl
   have hH1:(hex 8 m).length<=8:=by rw[HL.out];exact aB 8
   have hI2:decide (Lib.indexByte [115,114,99,116] k<0)=z:=by rw[HI.out,hk];rfl
   clear hC hk
   go_enter func100,ntmps100
   unfold Io
   go_wp2_with (first | (go_at_call 166;refine qx (yr m 8 _ om om hm) λw2 hb2=>?_;have d0:w2.cell? ⟨w.heap.size,0,E⟩=G (I U (k.toNat:Nat)):=(hb2.cell sm).trans sm;have hb3:Below w.heap.size w w2:=(eT _ _).trans (hb2.mono sm);have hs2:w.heap.size<w2.heap.size:=(by have:=hb2.size;simp at this;omega);clear hb2) | (go_at_call 167;refine QS (Tryz.strings_IndexByte _ _ _) ?_))
   go_ret;exact⟨fv,by first | exact hb3 | exact hb3.alloc om _⟩
  ·have HF:=H (show fS ⟨k,(m:Int)⟩=⟨#[]⟩ by
    have:sw ⟨k,(m:Int)⟩=z:=by rw[<-cS,jJ];exact λh=>hk h.1
    unfold fS;rw[IK this];rfl)
   have hE:(hex 8 m).isEmpty=z:=by cases h:hex 8 m with | nil=>rw[h] at HL;cases HL.out | cons=>rfl
   have hI2:decide (Lib.indexByte [115,114,99,116] k<0)=Q:=by rw[HI.out];simp[hk]
   clear hk
   go_enter func100,ntmps100
   unfold Io
   go_wp2_with (first | (go_at_call 166;refine qx (yr m 8 _ om om hm) λw2 hb2=>?_;have d0:w2.cell? ⟨w.heap.size,0,E⟩=G (I U (k.toNat:Nat)):=(hb2.cell sm).trans sm;have hb3:Below w.heap.size w w2:=(eT _ _).trans (hb2.mono sm);have hs2:w.heap.size<w2.heap.size:=(by have:=hb2.size;simp at this;omega);clear hb2) | (go_at_call 167;refine QS (Tryz.strings_IndexByte _ _ _) ?_))
   go_ret;exact⟨fv,hb3⟩
theorem Tf {s:ay}(h:s.size≠9):Cx s.data.toList=z:=by
 rw[<-cS,tY,<-eZ];exact λx=>h x.1
theorem Tr {s:ay}(h:s.size=9):fS ⟨s.data.toList.getD 0 0,(FF (s.data.toList.drop 1):Nat)⟩=s↔Cx s.data.toList=Q:=by
 have hl:s.data.toList.length=9:=by rw[<-eZ];exact h
 have hl':(s.data.toList.drop 1).length=8:=by simp[hl]
 constructor
 ·intro e;have e2:Ec ⟨s.data.toList.getD 0 0,(FF (s.data.toList.drop 1):Nat)⟩=s.data.toList:=by rw[<-nL,e]
  have hok:sw ⟨s.data.toList.getD 0 0,(FF (s.data.toList.drop 1):Nat)⟩=Q:=by
   cases ho:sw ⟨s.data.toList.getD 0 0,(FF (s.data.toList.drop 1):Nat)⟩ with
   | true=>rfl
   | false=>rw[IK ho] at e2;rw[<-e2] at hl;cases hl
  rw[<-e2];exact(Ol hok).1
 ·intro e;obtain⟨_,h2,h3⟩:=tY.1 e;have hu:FF (s.data.toList.drop 1)=unhex (s.data.toList.drop 1):=by
   unfold FF Cv me;rw[aA (by rw[h3,hl'];decide)]
  apply lv;rw[nL,hu,<-DY e];exact(U6 e).2
def YI (s:ay):Value:=.tuple #[Io (Kt s.data.toList),.bool (Cx s.data.toList)]
theorem VL (l):FF l<281474976710656:=by
 unfold FF;by_cases h:Cv l=Q
 ·rw[aA h];unfold Cv at h;rw[aM,aN] at h;exact(uJ l 12 h.2 h.1.2 (aB _)).2
 ·rw[az h];omega
theorem pF {P:Program}{fn:Func}{p a:Tmp}{ty:TypeId}(h:fn.results=#[.cell p ty,.tmp a])(tmps:Array Value)(w:World)(g:Nat)(t:TypeId)(cs:Array Value)(fr:Nat×Nat)(d:TypeDesc)
 (hp:tmps.getD p undef= .pointer (G ⟨g,0,E⟩)) (hg:w.heap[g]?=G (.cells cs t fr))
 (hu:P.underlying ty=G d) (hd:(match d with | .struct _ | .array _ _=>Q | _=>z)=Q) (hi:(P.info? ty).map (·.size)=G cs.size):
 (results fn tmps).run P w= .ok (.tuple #[.agg cs,tmps.getD a undef]) w:=by
 have hp':tmps[p]?.getD undef= .pointer (G ⟨g,0,E⟩):=by simpa using hp
 simp[results,h,hp',asAddr,run_loadVar_row w g t ty cs fr d hg hu hd hi]
theorem BN:(prog.info? 133).map (·.size)=G 2:=kr
theorem WE (s:ay)(w:World):
 Calls prog 151 #[C s] w λe w'=>e= .returned (YI s)/\Below w.heap.size w w':=by
 by_cases h9:s.size=9
 ·have hU:=oV (s.extract 1 9);have hd:(s.extract 1 9).data.toList=s.data.toList.drop 1:=by
   rw[gg,bz (by rw[<-eZ];omega)]
  have hz:(s.extract 1 9).size<=9223372036854775807:=by rw[dR];omega
  rw[hd] at hU;have hr:=VL (s.data.toList.drop 1);obtain⟨r,hr2,HR⟩:=nh (FF (s.data.toList.drop 1));have HW:=H (Tr h9);rw[<-hr2] at hU hr HW;obtain⟨c,hc,HC⟩:=nh (s.data.toList.getD 0 0);rw[<-hc] at HW;replace hU:=H hU;clear hd hc hr2;have hg:s[0].toNat=c.toNat:=by
   rw[HC.out,db,aW (by rw[<-eZ];omega)];rfl
  by_cases hb:Cx s.data.toList=Q
  ·obtain⟨HN,HB,HR8⟩:=gi (HW.out.2 hb) hb (show r=unhex (s.data.toList.drop 1) by
    rw[HR.out];unfold FF Cv me;rw[aA (by rw[(tY.1 hb).2.2,bm,<-eZ,h9];decide)])
   clear hb
   go_enter func151,ntmps151
   go_wp2_with (first | (go_at_call 222;refine QS (hU _ hz) ?_) | (go_at_call 100;go_loud (refine(ji ⟨c,(r:Int)⟩ _ ⟨eJ,eJ⟩).mono ?_;rw[HN.out];rintro e w3 ⟨rfl,hb3⟩;have BR:fP w3 w.heap.size 133 #[I U 0,av]:=(hb3.block _ eC).trans ((fP.new w _ _).alloc _);have hb4:Below w.heap.size w w3:=((eT w _).alloc sm _).trans (hb3.mono eC);have d0:w3.cell? ⟨w.heap.size+1,0,E⟩=G (I U (c.toNat:Nat)):=(hb3.cell sm).trans sm;have d1:w3.cell? ⟨w.heap.size+1,1,E⟩=G (I J (r:Nat)):=(hb3.cell sm).trans sm;have c0:=BR.cell 0;have c1:=BR.cell 1;have f0:=BR.frozen 0;have f1:=BR.frozen 1;clear hb3)))
   refine aa1 (pF (p:=2) (a:=3) D _ _ _ _ _ _ _ D ((BR.mu 0 _).mu 1 _) underlying133 D BN) D ⟨?_,(hb4.setCell sm _).setCell sm _⟩;unfold YI;rw[DY HB.out,HB.out,<-HC.out,<-HR8.out];rfl
  ·obtain⟨N,hN⟩:∃ N,N=fS ⟨c,(r:Int)⟩:=⟨_,D⟩;have hne:N≠s:=by rw[hN];exact λh=>hb (HW.out.1 h)
   have hne2:=Na N s (λh=>hne (lv h));obtain⟨HN,HB⟩:=eN hN (show Cx s.data.toList=z by simpa using hb);clear hN hne hb
   go_enter func151,ntmps151
   go_wp2_with (first | (go_at_call 222;refine QS (hU _ hz) ?_) | (go_at_call 100;refine(ji ⟨c,(r:Int)⟩ _ ⟨eJ,eJ⟩).mono ?_;rw[<-HN.out];rintro e w3 ⟨rfl,hb3⟩;have BR:fP w3 w.heap.size 133 #[I U 0,av]:=(hb3.block _ eC).trans ((fP.new w _ _).alloc _);have hb4:Below w.heap.size w w3:=((eT w _).alloc sm _).trans (hb3.mono eC);have d0:w3.cell? ⟨w.heap.size+1,0,E⟩=G (I U (c.toNat:Nat)):=(hb3.cell sm).trans sm;have d1:w3.cell? ⟨w.heap.size+1,1,E⟩=G (I J (r:Nat)):=(hb3.cell sm).trans sm;have c0:=BR.cell 0;have c1:=BR.cell 1;have f0:=BR.frozen 0;have f1:=BR.frozen 1;clear hb3))
   refine aa1 (pF (p:=2) (a:=3) D _ _ _ _ _ _ _ D ((BR.mu 0 _).mu 1 _) underlying133 D BN) D ⟨?_,(hb4.setCell sm _).setCell sm _⟩;unfold YI;rw[UY HB.out,HB.out];rfl
 ·have HF:=H (Tf h9)
  go_enter func151,ntmps151
  go_wp2
  refine aa1 (pF (p:=2) (a:=3) D _ _ _ _ _ _ _ D (fP.new _ _ _) underlying133 D BN) D ⟨?_,eT _ _⟩;unfold YI;rw[UY HF.out,HF.out];rfl
end SgM
namespace Tp
open Go Go.RowKit CrcM FrM
open Ds (fP qB jD yI lh)
theorem GN (c:UInt8)(w):Calls prog 43 #[I U (c.toNat:Nat)] w λe w'=>e= .returned (.bool (qB c))/\w=w':=by
 have HE:=H (show qB c=((decide (97<=c.toNat)&&decide (c.toNat<=122))||(decide (48<=c.toNat)&&decide (c.toNat<=57))) from rfl);obtain⟨x,hx⟩:=fe c.toNat;rw[<-hx];rw[<-hx] at HE;clear hx;by_cases h1:97<=x
 ·by_cases h2:x<=122
  ·have HF:=H (show qB c=Q by rw[HE.out,aF h1,aF h2];rfl);have e1:(97:Int)<=(x:Int):=om;have e2:(x:Int)<=122:=om;exact aaX
  ·have HF:=H (show qB c=z by rw[HE.out,aF h1,aC h2,aC (show ¬x<=57 by omega)];simp);have e1:(97:Int)<=(x:Int):=om;have e2:¬(x:Int)<=122:=om;have e3:(48:Int)<=(x:Int):=om;have e4:¬(x:Int)<=57:=om;have d2:decide ((x:Int)<=122)=z:=aC e2;have d4:decide ((x:Int)<=57)=z:=aC e4;exact aaX
 ·have e1:¬(97:Int)<=(x:Int):=om;have d1:decide ((97:Int)<=(x:Int))=z:=aC e1;by_cases h3:48<=x
  ·have e3:(48:Int)<=(x:Int):=om;by_cases h4:x<=57;have HF:=H (show qB c=Q by rw[HE.out,aF h3,aF h4];simp);have e4:(x:Int)<=57:=om;rotate_left;have HF:=H (show qB c=z by rw[HE.out,aC h1,aC h4];simp);have e4:¬(x:Int)<=57:=om;have d4:decide ((x:Int)<=57)=z:=aC e4;rotate_left
   all_goals
    exact aaX
  ·have HF:=H (show qB c=z by rw[HE.out,aC h1,aC h3];simp);have e3:¬(48:Int)<=(x:Int):=om;have d3:decide ((48:Int)<=(x:Int))=z:=aC e3;exact aaX
def gD (s:ay):Bool:=jD s.data.toList&&(decide (1<=s.size)&&decide (s.size<=12))
def Mj (c:UInt8):Bool:=decide (33<=c.toNat)&&decide (c.toNat<=126)
def mh (s:ay):Bool:=s.data.toList.all Mj&&decide (s.size≠0)
theorem wS {p:UInt8->Bool}{s:ay}(h:k<s.size)(hc:p s[k]=z):s.data.toList.all p=z:=by
 exact abD
theorem uA {p:UInt8->Bool}{s:ay}(h:k<s.size)(ha:(s.data.toList.take k).all p=Q)(hc:p s[k]=Q):(s.data.toList.take (k+1)).all p=Q:=by
 rw[lh s k h,dF,ha];simp[hc]
theorem wT {p:UInt8->Bool}{s:ay}(ha:(s.data.toList.take s.size).all p=Q):s.data.toList.all p=Q:=by
 rwa[Ds.vC s] at ha
theorem kj (s:ay)(w:World)(hs:s.size<=9223372036854775807):
 Calls prog 23 #[C s] w λe w'=>e= .returned (.bool (gD s))/\w=w':=by
 go_enter func23,ntmps23
 go_wp2
 go_loop [6] (λi=>∃ k:Nat,k<=s.size/\(s.data.toList.take k).all qB=Q/\i= I J k) (λi=>s.size - (intOf i).toNat)
 case atStart=>exact⟨0,aD _,D,D⟩
 case round=>
  obtain⟨k,hk,ha,rfl⟩:=hrel;have HA:=H ha;clear ha;by_cases hlt:k<s.size
  ·have LT:=λw=>GN s[k] w;obtain⟨HS,HN⟩:=eN (λ(h:qB s[k]=z)=>wS hlt h) (λ(h:qB s[k]=Q)=>uA hlt HA h);cases hc:qB s[k] with
   | true=>
    rw[hc] at LT;have HN2:=H (HN hc);clear hc
    go_wp2_with (go_at_call 43;refine QS (LT _) ?_)
    go_round
    case rel=>exact⟨k+1,om,HN2,eB⟩
    case measure=>simp[intOf];omega
   | false=>
    rw[hc] at LT;have HF:=H (show gD s=z by unfold gD jD;rw[HS.out hc];rfl);clear hc
    go_wp2_with (go_at_call 43;refine QS (LT _) ?_)
    go_ret;exact⟨fv,D⟩
  ·obtain rfl:k=s.size:=om;have HE:=H (show gD s=(decide (1<=s.size)&&decide (s.size<=12)) by unfold gD jD;rw[wT HA.out];rfl);by_cases h1:1<=s.size
   ·have e1:(1:Int)<=(s.size:Int):=om;by_cases h2:s.size<=12
    ·have HF:=H (show gD s=Q by rw[HE.out,aF h1,aF h2];rfl);have e2:(s.size:Int)<=12:=om;exact fu
    ·have HF:=H (show gD s=z by rw[HE.out,aC h2];simp);have e2:¬(s.size:Int)<=12:=om;have d2:decide ((s.size:Int)<=12)=z:=aC e2;exact fu
   ·have HF:=H (show gD s=z by rw[HE.out,aC h1];rfl);have e1:¬(1:Int)<=(s.size:Int):=om;have d1:decide ((1:Int)<=(s.size:Int))=z:=aC e1;exact fu
theorem Mx (s:ay)(w:World)(hs:s.size<=9223372036854775807):
 Calls prog 76 #[C s] w λe w'=>e= .returned (.bool (mh s))/\w=w':=by
 go_enter func76,ntmps76
 go_wp2
 go_loop [6] (λi=>∃ k:Nat,k<=s.size/\(s.data.toList.take k).all Mj=Q/\i= I J k) (λi=>s.size - (intOf i).toNat)
 case atStart=>exact⟨0,aD _,D,D⟩
 case round=>
  obtain⟨k,hk,ha,rfl⟩:=hrel;have HA:=H ha;clear ha;by_cases hlt:k<s.size
  ·obtain⟨HS,HN,HW⟩:=gi (λ(h:Mj s[k]=z)=>wS hlt h) (λ(h:Mj s[k]=Q)=>uA hlt HA h) (show Mj s[k]=(decide (33<=s[k].toNat)&&decide (s[k].toNat<=126)) from rfl);by_cases h1:s[k].toNat<33
   ·exact rL
   ·have e1:¬(s[k].toNat:Int)<33:=om;have d1:decide ((s[k].toNat:Int)<33)=z:=aC e1;by_cases h2:126<s[k].toNat
    ·exact rA
    ·have HN2:=H (HN rG);have e2:¬(126:Int)<(s[k].toNat:Int):=om;have d2:decide ((126:Int)<(s[k].toNat:Int))=z:=aC e2
     go_wp2
     go_round
     case rel=>exact⟨k+1,om,HN2,eB⟩
     case measure=>simp[intOf];omega
  ·obtain rfl:k=s.size:=om;have HE:=H (show mh s=decide (s.size≠0) by unfold mh;rw[wT HA.out];rfl);by_cases h0:s.size=0
   ·have HF:=H (show mh s=z by rw[HE.out,h0];rfl);have hn:s=⟨#[]⟩:=lv (cP (by rw[<-eZ];exact h0));clear hk hlt h0;subst hn;exact fu
   ·have HF:=H (show mh s=Q by rw[HE.out];exact aF h0);have hn:s.toList≠[]:=by
     rw[ByteArray.toList_eq];intro e;have:=eZ s;rw[e] at this;exact h0 this
    have n1:(s.toList==[])=z:=by rw[aX];exact hn
    have n2:decide (s.toList=[])=z:=aC hn;have n3:s.toList.isEmpty=z:=by cases h:s.toList with | nil=>exact absurd h hn | cons=>rfl
    exact fu
def XK (b:Bool)(i:Int):Prop:=0<=i↔b=z
def eO (w:World)(v:Value)(F:List ay):Prop:=
 ∃ A cap,v= Z A F.length cap/\(F≠[]->∃ g off,A=G ⟨g,off,E⟩/\g<w.heap.size/\F.length<=cap/\∀ k (h:k<F.length),w.cell? ⟨g,off+k,E⟩=G (C F[k]))
theorem eO.below{v}{F}(h:eO w v F)(hb:Below w.heap.size w w'):eO w' v F:=by
 obtain⟨A,cap,h1,h2⟩:=h;refine⟨A,cap,h1,λhne=>?_⟩;obtain⟨g,off,e,hg,hn,hc⟩:=h2 hne;exact⟨g,off,e,bK hg hb.size,hn,λk hk=>(hb.cell aaC).trans (hc k hk)⟩
theorem OI (s:ay)(w)(hs:s.size<=9223372036854775807):Calls prog 315 #[C s] w λe w'=>e= .returned (.bool (!gD s))/\w=w':=by
 go_enter func315,ntmps315
 go_wp2_with (go_at_call 23;refine QS (kj s _ hs) ?_)
 go_ret;exact⟨D,D⟩
theorem GF (F)(v)(w)(h:eO w v F)(hl:F.length<=1000000000)(hF:∀ s∈F,s.size<=9223372036854775807):
 Calls prog 113 #[v,.func (.func 315) #[] #[]] w λe w'=>(∃ i:Int,e= .returned (I J i)/\XK (F.all gD) i)/\w=w':=by
 obtain⟨A,cap,rfl,hc⟩:=h;obtain⟨n,hn,HN⟩:=nh F.length;rw[<-hn] at hl ⊢;obtain⟨HC,HS⟩:=eN hc hF;clear hc hn hF
 go_enter func113,ntmps113
 go_wp2_with fail
 go_loop [8] (λi=>∃ k:Nat,k<=n/\(F.take k).all gD=Q/\i= I J (k:Nat)) (λi=>n - (intOf i).toNat)
 case atStart=>exact⟨0,aD _,D,D⟩
 case round=>
  obtain⟨k,hk,ha,rfl⟩:=hrel;have HA:=H ha;clear ha;by_cases hlk:k<n
  ·have hlk':k<F.length:=by rw[<-HN.out];exact hlk
   obtain⟨g,off,rfl,hg,_,hcl⟩:=HC abu;have c0:=hcl k hlk';have CL:=λw=>OI F[k] w (HS _ (aV _));obtain⟨HT,HM⟩:=eN (show(F.take (k+1)).all gD=((F.take k).all gD&&gD F[k]) by rw[aL hlk',dF];simp) (show gD F[k]=z->F.all gD=z from λh=>dC.2 ⟨F[k],aV _,aaL⟩);have i0:(0:Int)<=(k:Int):=om;have i1:(k:Int)<n:=om;clear hcl;generalize F[k]=s at c0 CL HT HM;cases hp:gD s with
   | true=>
    rw[hp] at CL;have HT2:=H (show(F.take (k+1)).all gD=Q by rw[HT.out,HA.out,hp];rfl);clear hp
    go_wp2_with (go_at_call 315;refine QS (CL _) ?_)
    go_round
    case rel=>exact⟨k+1,om,HT2,eB⟩
    case measure=>simp[intOf];omega
   | false=>
    rw[hp] at CL;have HM2:=H (HM hp);clear hp
    go_wp2_with (go_at_call 315;refine QS (CL _) ?_)
    go_ret;exact⟨⟨_,D,show(0:Int)<=(k:Int)↔_ from⟨λ_=>HM2.out,λ_=>by omega⟩⟩,D⟩
  ·obtain rfl:n=k:=om;have HE:=H (show F.all gD=Q by have:=HA.out;rw[HN.out,aT] at this;exact this);exact abz
theorem O8 (s:ay)(w)(hs:s.size<=9223372036854775807):Calls prog 75 #[C s] w λe w'=>e= .returned (.bool (!mh s))/\w=w':=by
 go_enter func75,ntmps75
 go_wp2_with (go_at_call 76;refine QS (Mx s _ hs) ?_)
 go_ret;exact⟨D,D⟩
theorem GU (F)(v)(w)(h:eO w v F)(hl:F.length<=1000000000)(hF:∀ s∈F,s.size<=9223372036854775807):
 Calls prog 113 #[v,.func (.func 75) #[] #[]] w λe w'=>(∃ i:Int,e= .returned (I J i)/\XK (F.all mh) i)/\w=w':=by
 obtain⟨A,cap,rfl,hc⟩:=h;obtain⟨n,hn,HN⟩:=nh F.length;rw[<-hn] at hl ⊢;obtain⟨HC,HS⟩:=eN hc hF;clear hc hn hF
 go_enter func113,ntmps113
 go_wp2_with fail
 go_loop [8] (λi=>∃ k:Nat,k<=n/\(F.take k).all mh=Q/\i= I J (k:Nat)) (λi=>n - (intOf i).toNat)
 case atStart=>exact⟨0,aD _,D,D⟩
 case round=>
  obtain⟨k,hk,ha,rfl⟩:=hrel;have HA:=H ha;clear ha;by_cases hlk:k<n
  ·have hlk':k<F.length:=by rw[<-HN.out];exact hlk
   obtain⟨g,off,rfl,hg,_,hcl⟩:=HC abu;have c0:=hcl k hlk';have CL:=λw=>O8 F[k] w (HS _ (aV _));obtain⟨HT,HM⟩:=eN (show(F.take (k+1)).all mh=((F.take k).all mh&&mh F[k]) by rw[aL hlk',dF];simp) (show mh F[k]=z->F.all mh=z from λh=>dC.2 ⟨F[k],aV _,aaL⟩);have i0:(0:Int)<=(k:Int):=om;have i1:(k:Int)<n:=om;clear hcl;generalize F[k]=s at c0 CL HT HM;cases hp:mh s with
   | true=>
    rw[hp] at CL;have HT2:=H (show(F.take (k+1)).all mh=Q by rw[HT.out,HA.out,hp];rfl);clear hp
    go_wp2_with (go_at_call 75;refine QS (CL _) ?_)
    go_round
    case rel=>exact⟨k+1,om,HT2,eB⟩
    case measure=>simp[intOf];omega
   | false=>
    rw[hp] at CL;have HM2:=H (HM hp);clear hp
    go_wp2_with (go_at_call 75;refine QS (CL _) ?_)
    go_ret;exact⟨⟨_,D,show(0:Int)<=(k:Int)↔_ from⟨λ_=>HM2.out,λ_=>by omega⟩⟩,D⟩
  ·obtain rfl:n=k:=om;have HE:=H (show F.all mh=Q by have:=HA.out;rw[HN.out,aT] at this;exact this);exact abz
theorem O1:(∀ (F:List ay) (v:Value) (w:World) (h:eO w v F) (hl:F.length<=1000000000) (hF:∀ s∈F,s.size<=9223372036854775807),Calls prog 74 #[v,.func (.func 315) #[] #[]] w λe w'=>e= .returned (.bool (!F.all gD))/\w=w')/\
 (∀ (F:List ay) (v:Value) (w:World) (h:eO w v F) (hl:F.length<=1000000000) (hF:∀ s∈F,s.size<=9223372036854775807),Calls prog 74 #[v,.func (.func 75) #[] #[]] w λe w'=>e= .returned (.bool (!F.all mh))/\w=w'):=by
 refine⟨?_,?_⟩
 all_goals intro F v w h hl hF
 have IX:=GF F v w h hl hF;rotate_left;have IX:=GU F v w h hl hF;rotate_left
 all_goals
  obtain⟨A,cap,rfl,-⟩:=h
 generalize F.all gD=b at IX ⊢;rotate_left;generalize F.all mh=b at IX ⊢;rotate_left
 all_goals
  replace IX:=H IX
  go_enter func74,ntmps74
  go_wp2_with fail
  refine IX.mono ?_;rintro e w2 ⟨⟨i,rfl,hi⟩,rfl⟩;unfold XK at hi;cases b with
  | true=>
   have h2:¬(0:Int)<=i:=λh=>by cases hi.1 h
   have d2:decide ((0:Int)<=i)=z:=aC h2;clear hi
   go_wp2_with fail
   go_ret;exact⟨by first | rfl | simp[d2],D⟩
  | false=>
   have h2:(0:Int)<=i:=hi.2 D;have d2:decide ((0:Int)<=i)=Q:=aF h2;clear hi
   go_wp2_with fail
   go_ret;exact⟨by first | rfl | simp[d2],D⟩
theorem Co (F)(v)(w)(h:eO w v F)(hl:F.length<=1000000000)(hF:∀ s∈F,s.size<=9223372036854775807):
 Calls prog 247 #[v] w λe w'=>e= .returned (.bool (F.all gD))/\w=w':=by
 have CT:=O1.1 F v w h hl hF;obtain⟨A,cap,rfl,-⟩:=h;generalize F.all gD=b at CT ⊢;replace CT:=H CT
 go_enter func247,ntmps247
 go_wp2_with fail
 refine CT.mono ?_;rintro e w2 ⟨rfl,rfl⟩;cases b with
 | true=>
  exact gN
 | false=>
  exact gN
theorem tV (a b:ay)(w:World)(ha:a.size<=9223372036854775807)(hb:b.size<=9223372036854775807):
 Calls prog 186 #[.agg #[C a,C b]] w λe w'=>e= .returned (.bool (gD a&&gD b))/\Below w.heap.size w w':=by
 obtain⟨W,hW,HW⟩:=nh ((w.alloc (.cells #[C a,C b] 117)).alloc (.cells #[C a,C b] 9));have HB:=H (show Below w.heap.size w W by rw[hW];exact(eT _ _).alloc sm _);have BU:Ds.fP W (w.heap.size+1) 9 #[C a,C b]:=by
  rw[hW];have:=Ds.fP.new (w.alloc (.cells #[C a,C b] 117)) 9 #[C a,C b];simpa using this
 have AA:=H (Co [a,b] (Z (G ⟨w.heap.size+1,0,E⟩) 2 2) W ⟨_,2,D,λ_=>⟨_,0,D,BU.lt,sm,λk hk=>by
  rcases(show k=0∨k=1 by simp at hk;omega) with rfl | rfl
  ·exact BU.cell 0
  ·exact BU.cell 1⟩⟩ sm (λs hs=>by simp at hs;rcases hs with rfl | rfl<;>assumption))
 have HE:=H (show [a,b].all gD=(gD a&&gD b) by simp);clear hW
 go_enter func186,ntmps186
 go_wp2_with fail
 rw[<-HW.out];refine AA.mono ?_;rintro e w2 ⟨rfl,rfl⟩;rw[HE.out]
 go_wp2_with fail
 go_ret;exact⟨D,HB⟩
end Tp
namespace SgM
open Go Go.RowKit CrcM FrM
open Ds (fP qB jD yI lh)
theorem tL:(prog.info? 206).map (·.size)=G 2:=kr
theorem ud:(prog.info? 5).map (λi=>(i.zero,i.size,i.bytes))=G (G (I U 0),1,1):=kr
theorem yB (b:Nat)(w:World)(h0:w.cell? ⟨b,0,E⟩=G (.pointer (G ⟨b,0,E⟩))):
 Calls prog 178 #[.pointer (G ⟨b,0,E⟩)] w λe w'=>e= .returned (.tuple #[])/\w'=w:=by
 obtain⟨j,hj,_⟩:=Option.map_eq_some_iff.1 tL
 go_enter func178,ntmps178
 go_wp2
 rw[Lib.run_neq_ptr_same w _ underlying204 hj]
 go_wp2
 go_end0;exact⟨D,D⟩
theorem vK (b:Nat)(w:World)(h0:w.cell? ⟨b,0,E⟩=G (.pointer E))(hsh:w.shape? b=G (206,2))(hfz:w.frozen? ⟨b,0,E⟩=z):
 Calls prog 178 #[.pointer (G ⟨b,0,E⟩)] w λe w'=>e= .returned (.tuple #[])/\w'=w.setCell ⟨b,0,E⟩ (.pointer (G ⟨b,0,E⟩)):=by
 obtain⟨j,hj,hjs⟩:=Option.map_eq_some_iff.1 tL
 go_enter func178,ntmps178
 go_wp2
 rw[Lib.run_to_unsafe w ⟨b,0,E⟩ underlying204 underlying328 hj (by rw[hjs];decide) hsh (Nat.zero_lt_succ 1)];simp only[Result.andThen];rw[Oper.upon_value]
 go_wp2
 rw[run_callFunc_extern func236 kr kr kr (e:=Extern.AbiNoEscape.same) kr];rw[Lib.run_noEscape];simp only[Result.andThen];rw[Oper.upon_value]
 go_wp2
 rw[Lib.run_from_unsafe w ⟨b,0,E⟩ underlying328 underlying204 hj hsh kr];simp only[Result.andThen];rw[Oper.upon_value]
 go_wp2
 go_end0;exact⟨D,D⟩
theorem LU (B b:Nat)(bs)(w)(h:Lib.IsBuilder 206 5 B b bs w):
 Calls prog 178 #[.pointer (G ⟨b,0,E⟩)] w λe w'=>e= .returned (.tuple #[])/\(Lib.BuilderAt 206 5 B b (.pointer (G ⟨b,0,E⟩)) bs w'/\Below B w w'):=by
 rcases h with h | h
 ·refine QS (vK b w h.cell0 h.shape h.frozen0) ?_;exact⟨D,h.used _,(aa4 B w).setCell (p:=⟨b,0,E⟩) h.1 _⟩
 ·refine QS (yB b w h.cell0) ?_;exact⟨D,h,aa4 B _⟩
theorem uG (B b:Nat)(bs)(s:ay)(w)(h:Lib.IsBuilder 206 5 B b bs w)(hlen:bs.length+s.size<=140737488355328)(hBw:B<=w.heap.size):
 Calls prog 111 #[.pointer (G ⟨b,0,E⟩),C s] w λe w'=>e= .returned (.tuple #[I J s.size,.nilIface])/\(Lib.BuilderAt 206 5 B b (.pointer (G ⟨b,0,E⟩)) (bs++Lib.strCells s) w'/\Below B w w'):=by
 obtain⟨i0,hi,hz0,hz1,hz2⟩:=info_parts ud
 go_enter func111,ntmps111
 go_wp2_with (go_at_call 178;refine(LU B b bs _ h).mono ?_)
 rintro e w1 ⟨rfl,h1,hb1⟩;obtain⟨hB,v,hbk,hown,hne⟩:=h1;have c0:w1.cell? ⟨b,0,E⟩=G (.pointer (G ⟨b,0,E⟩)):=by rw[Lib.cell_of_heap hbk];rfl
 have c1:w1.cell? ⟨b,1,E⟩=G v:=by rw[Lib.cell_of_heap hbk];rfl
 go_wp2_with (at_builtin;refine Lib.wpList_append_own_string _ D _ _ 203 9 D B 5 i0 underlying203 underlying9 hi hz0 hz1 hz2 _ _ _ D hown s D ?c3 ?c4 ?c5 ?_)
 case c3=>unfold maxLen;omega
 case c4=>omega
 case c5=>have:=hb1.size;omega
 intro v' w2 hown' hgrow _;have hlt:b<w1.heap.size:=by
  rcases bZ b w1.heap.size with h' | h'
  ·exact h'
  ·simp[Array.getElem?_eq_none h'] at hbk
 have hb2:w2.heap[b]?=G (.cells #[.pointer (G ⟨b,0,E⟩),v] 206 (0,0)):=by
  rw[hgrow.block b hlt (λe=>hne e.symm)];exact hbk
 have d1:w2.cell? ⟨b,1,E⟩=G v:=by rw[Lib.cell_of_heap hb2];rfl
 have f1:w2.frozen? ⟨b,1,E⟩=z:=Lib.frozen_of_heap hb2 1;obtain⟨ao,n',cap,rfl⟩:∃ ao n' cap,v'= Z ao n' cap:=by
  rcases hown'.2 with⟨hv,_⟩ | ⟨g,cap,cur,hv,_⟩
  all_goals
   exact⟨_,_,_,hv⟩
 go_wp2
 go_ret2
 refine⟨D,?_,?_⟩
 ·exact Lib.BuilderAt.put (T:=206) (e:=5) hB hb2 (bs':=bs++Lib.strCells s) (by simpa[Lib.strCells_length] using hown') dc
 ·exact(hb1.grown hgrow (by have:=hb1.size;omega) (λk hk=>(hown.lt k hk).1)).setCell (p:=⟨b,1,E⟩) hB _
theorem OC (x:Int)(w):Calls prog 294 #[I U x] w λe w'=>e= .returned (.bool z)/\w=w':=by
 go_enter func294,ntmps294
 go_wp2
 go_ret;exact⟨sm,D⟩
def yO (x y:Int):Int:=if x<y then -1 else if y<x then 1 else 0
theorem QC (x y:Int)(w):Calls prog 224 #[I U x,I U y] w λe w'=>e= .returned (I J (yO x y))/\w=w':=by
 by_cases h1:x<y
 ·have HE:=H (show yO x y= -1 by unfold yO;rw[aA h1]);exact rj
 by_cases h2:y<x;have HE:=H (show yO x y=1 by unfold yO;rw[az h1,aA h2]);have h3:y<=x:=om;rotate_left;have HE:=H (show yO x y=0 by unfold yO;rw[az h1,az h2]);have h3:y=x:=om;rotate_left
 all_goals
  exact rj
theorem Tq (x:Int)(w):Calls prog 259 #[I J x] w λe w'=>e= .returned (.bool z)/\w=w':=by
 go_enter func259,ntmps259
 go_wp2
 go_ret;exact⟨sm,D⟩
theorem Uq (x y:Int)(w):Calls prog 208 #[I J x,I J y] w λe w'=>e= .returned (I J (yO x y))/\w=w':=by
 by_cases h1:x<y
 ·have HE:=H (show yO x y= -1 by unfold yO;rw[aA h1]);exact rk
 by_cases h2:y<x;have HE:=H (show yO x y=1 by unfold yO;rw[az h1,aA h2]);have h3:y<=x:=om;rotate_left;have HE:=H (show yO x y=0 by unfold yO;rw[az h1,az h2]);have h3:y=x:=om;rotate_left
 all_goals
  exact rk
def orI (x y:Int):Int:=if x=0 then y else x
theorem Wv (x y:Int)(g:Nat)(w:World)(c0:w.cell? ⟨g,0,E⟩=G (I J x))(c1:w.cell? ⟨g,1,E⟩=G (I J y)):
 Calls prog 207 #[Z (G ⟨g,0,E⟩) 2 2] w λe w'=>e= .returned (I J (if x=0 then y else x))/\w=w':=by
 by_cases hx:x=0
 ·subst hx
  go_enter func207,ntmps207
  go_wp2
  go_loop [5,8] (λ_ i=>∃ k:Nat,k<=2/\i= I J k/\(k=2->y=0)) (λ_ i=>2 - (intOf i).toNat)
  case atStart=>exact⟨0,om,D,om⟩
  case round=>
   obtain⟨k,hk,rfl,hy⟩:=hrel;rcases(show k=0∨k=1∨k=2 by omega) with rfl | rfl | rfl
   ·go_wp2
    go_round
    case rel=>exact⟨1,om,D,om⟩
    case measure=>simp[intOf]
   ·by_cases h0:y=0
    ·go_wp2
     go_round
     case rel=>exact⟨2,om,D,λ_=>h0⟩
     case measure=>simp[intOf]
    ·go_wp2
     go_ret;exact⟨D,D⟩
   ·have h0:=hy D
    go_wp2
    go_ret;exact⟨by first | rfl | (rw[h0];rfl),D⟩
 ·have HE:=H (show(if x=0 then y else x)=x by rw[az hx])
  go_enter func207,ntmps207
  go_wp2
  go_loop [5,8] (λ_ i=>i= I J 0) (λ_ i=>2 - (intOf i).toNat)
  case atStart=>rfl
  case round=>
   subst hrel
   go_wp2
   go_ret;exact⟨by first | rfl | (rw[HE.out];rfl),D⟩
theorem RV (a b:Sg):(if yO a.n b.n=0 then yO (a.k.toNat:Nat) (b.k.toNat:Nat) else yO a.n b.n)=Cg a b:=by
 unfold Cg yO;by_cases h1:a.n<b.n
 ·rw[aA h1,az dc,aA (lt_iff.2 (aG h1))]
 rw[az h1];by_cases h2:b.n<a.n
 ·rw[aA h2,az dc,az (by rw[lt_iff];omega),aA (lt_iff.2 (aG h2))]
 rw[az h2,aA D];by_cases h3:a.k.toNat<b.k.toNat
 ·rw[aA om,aA (lt_iff.2 (aI ⟨om,h3⟩))]
 rw[az om];by_cases h4:b.k.toNat<a.k.toNat
 ·rw[aA om,az (by rw[lt_iff];omega),aA (lt_iff.2 (aI ⟨om,h4⟩))]
 rw[az om,az (by rw[lt_iff];omega),az (by rw[lt_iff];omega)]
theorem S6 (x y:Int)(g:Nat)(w:World)(c0:w.cell? ⟨g,0,E⟩=G (I J x))(c1:w.cell? ⟨g,1,E⟩=G (I J y)):
 Calls prog 207 #[Z (G ⟨g,0,E⟩) 2 2] w λe w'=>e= .returned (I J (orI x y))/\w=w':=Wv x y g w c0 c1
theorem wG{a}{v}(h:W.cell? a=G v)(o):(W.alloc o).drew.cell? a=G v:=
 (World.cell?_alloc_lt _ _ _ (block_lt_of_cell h)).trans h
theorem Yf (W:World)(T:TypeId)(u v:Value):(W.alloc (.cells #[u,v] T)).drew.cell? ⟨W.heap.size,0,E⟩=G u:=(fP.new W T #[u,v]).cell 0
theorem Ye (W:World)(T:TypeId)(u v:Value):(W.alloc (.cells #[u,v] T)).drew.cell? ⟨W.heap.size,1,E⟩=G v:=(fP.new W T #[u,v]).cell 1
theorem Ur (a b:Sg)(w:World):
 Calls prog 153 #[Io a,Io b] w λe w'=>e= .returned (I J (Cg a b))/\∃ q os',w'=Go.Sort.grow (w.drewN q) os':=by
 have HE:=H (RV a b);obtain⟨x,hx⟩:∃ x:Int,x=(a.k.toNat:Nat):=⟨_,D⟩;obtain⟨y,hy⟩:∃ y:Int,y=(b.k.toNat:Nat):=⟨_,D⟩;obtain⟨m,hm⟩:∃ m:Int,m=a.n:=⟨_,D⟩;obtain⟨n,hn⟩:∃ n:Int,n=b.n:=⟨_,D⟩;unfold Io;rw[<-hx,<-hy,<-hm,<-hn];rw[<-hx,<-hy,<-hm,<-hn] at HE;clear hx hy hm hn;obtain⟨W,hW⟩:=fe ((w.alloc (.cells #[I U x,I J m] 133)).alloc (.cells #[I U y,I J n] 133));have B0:fP W w.heap.size 133 #[I U x,I J m]:=by rw[hW];exact(fP.new w _ _).alloc _
 have B1:fP W (w.heap.size+1) 133 #[I U y,I J n]:=by
  rw[hW];have:=fP.new (w.alloc (.cells #[I U x,I J m] 133)) 133 #[I U y,I J n];simpa using this
 have a0:W.cell? ⟨w.heap.size,0,E⟩=G (I U x):=B0.cell 0;have a1:W.cell? ⟨w.heap.size,1,E⟩=G (I J m):=B0.cell 1;have b0:W.cell? ⟨w.heap.size+1,0,E⟩=G (I U y):=B1.cell 0;have b1:W.cell? ⟨w.heap.size+1,1,E⟩=G (I J n):=B1.cell 1;have HW:=H hW;clear hW
 go_enter func153,ntmps153
 go_wp2_with fail
 rw[<-HW.out]
 go_region_held3 (λw'=>(w'.cell? ⟨w.heap.size,0,E⟩=G (I U x)/\w'.cell? ⟨w.heap.size,1,E⟩=G (I J m)/\w'.cell? ⟨w.heap.size+1,0,E⟩=G (I U y)/\w'.cell? ⟨w.heap.size+1,1,E⟩=G (I J n))/\Below W.heap.size W w')
  (first | exact⟨⟨a0,a1,b0,b1⟩,kE⟩ | exact⟨⟨wG a0 _,wG a1 _,wG b0 _,wG b1 _⟩,(eT _ _).drew⟩)
  (first | (go_at_call 208;refine QS (Uq _ _ _) ?_) | (go_at_call 224;refine QS (QC _ _ _) ?_) | (go_at_call 207;refine QS (S6 (yO m n) (yO x y) W.heap.size _ (Yf _ _ _ _) (Ye _ _ _ _)) ?_))
 all_goals
  have hfin:∃ q os',(W.alloc (.cells #[I J (yO m n),I J (yO x y)] 3)).drew=Go.Sort.grow (w.drewN q) os':=by
   rw[HW.out,Go.Sort.alloc_eq_grow,Go.Sort.alloc_eq_grow,Go.Sort.alloc_eq_grow,Go.Sort.grow_grow,Go.Sort.grow_grow,Go.Sort.drew_grow];exact⟨1,_,D⟩
  go_wp2_with fail
  go_ret;exact⟨aaN,hfin⟩
theorem Df (s:Sg)(w:World):
 Calls prog 155 #[Io s] w λe w'=>e= .returned (.bool (rS s))/\Below w.heap.size w w':=by
 have HE:=H (show rS s=(decide (s.k.toNat=115)||decide (s.k.toNat=114)) from rfl);obtain⟨x,hx⟩:∃ x:Nat,x=s.k.toNat:=⟨_,D⟩;unfold Io;rw[<-hx];rw[<-hx] at HE;clear hx;by_cases h1:x=115
 ·have HF:=H (show rS s=Q by rw[HE.out,h1];rfl);subst h1
  go_enter func155,ntmps155
  go_wp2
  go_ret;exact⟨fv,eT _ _⟩
 by_cases h2:x=114;have HF:=H (show rS s=Q by rw[HE.out,h2];rfl);subst h2;rotate_left;have HF:=H (show rS s=z by rw[HE.out,aC h1,aC h2];rfl);have d1:decide (x=115)=z:=aC h1;have d2:decide (x=114)=z:=aC h2;have e1:((x:Int)==115)=z:=by rw[aX];omega
 have e2:((x:Int)==114)=z:=by rw[aX];omega
 rotate_left
 all_goals
  go_enter func155,ntmps155
  go_wp2
  go_ret;exact⟨fv,eT _ _⟩
