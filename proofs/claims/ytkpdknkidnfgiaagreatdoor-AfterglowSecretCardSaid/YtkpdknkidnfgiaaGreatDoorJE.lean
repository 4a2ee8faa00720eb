/- Lemmas for AfterglowSecret: what functions of the program return; no condition. -/
import Derived.WalkKit
import Derived.Test.YtkpdknkidnfgiaaGreatDoorProg
import Derived.WalkSpells
import Derived.WalkLawsBesides
import Derived.Deep.WholeRow
import Derived.Laws.CopyOwn
import Derived.Deep.OwnRows
import Derived.Test.YtkpdknkidnfgiaaGreatDoorJA
set_option maxHeartbeats 0
set_option maxRecDepth 100000
set_option linter.unusedVariables false
open Go.Value renaming int->I,string->C,slice->Z
open Go.IntKind renaming i64->J,u8->U
open Option renaming none->E,some->G
open Bool renaming true->Q,false->z
open Go.Lib renaming hid->H
open Go.Proofs.Tryz
namespace Go.Proofs.YtkpdknkidnfgiaaGreatDoor
variable {B:Nat} {w:World}
namespace CrcM
def F8 (n:Nat):Nat:=if n % 2=1 then(n / 2) ^^^ 2197175160 else n / 2
def turns:Nat->Nat->Nat
 | 0,n=>n
 | k+1,n=>F8 (turns k n)
def T8 (c:Nat):Nat:=turns 8 c
def VV (s c:Nat):Nat:=(s / 256) ^^^ T8 ((s % 256) ^^^ c)
def feed (s:Nat)(l:List UInt8):Nat:=l.foldl (λa c=>VV a c.toNat) s
def tA (l:List UInt8):Nat:=4294967295 - feed 4294967295 l
theorem Rv (n:Nat)(h:n<4294967296):F8 n<4294967296:=by
 unfold F8
 split
 ·exact dG (n:=32) om om
 ·omega
theorem CV (k n:Nat)(h:n<4294967296):turns k n<4294967296:=by
 induction k with
 | zero=>exact h
 | succ k ih=>exact Rv _ ih
theorem Ql (c:Nat)(h:c<4294967296):T8 c<4294967296:=CV 8 c h
theorem VU (s c:Nat)(h:s<4294967296)(hc:c<256):VV s c<4294967296:=by
 unfold VV;have h1:(s % 256) ^^^ c<2 ^ 8:=dG om om;have h2:=Ql ((s % 256) ^^^ c) om;exact dG (n:=32) om om
theorem T6 (l)(s:Nat)(h:s<4294967296):feed s l<4294967296:=by
 unfold feed
 induction l generalizing s with
 | nil=>exact h
 | cons c l ih=>exact ih _ (VU _ _ h c.toNat_lt)
theorem EZ (s:Nat)(a b:List UInt8):feed s (a++b)=feed (feed s a) b:=by
 unfold feed;rw[cX]
theorem Lr (s:Nat)(a:List UInt8)(c:UInt8):feed s (a++[c])=VV (feed s a) c.toNat:=by
 rw[EZ];rfl
theorem Wa (l):tA l<4294967296:=by unfold tA;omega
def wN (n:Nat):UInt8:=if n<10 then UInt8.ofNat (48+n) else UInt8.ofNat (87+n)
def hex:Nat->Nat->List UInt8
 | 0,_=>[]
 | k+1,n=>hex k (n / 16)++[wN (n % 16)]
theorem gP (k n:Nat):(hex k n).length=k:=by
 induction k generalizing n with
 | zero=>rfl
 | succ k ih=>simp[hex,ih]
theorem Ps (k n:Nat)(h:n<16 ^ (k+1)):hex (k+1) n=wN (n / 16 ^ k % 16)::hex k n:=by
 induction k generalizing n with
 | zero=>simp[hex]
 | succ k ih=>
  have e:hex (k+2) n=hex (k+1) (n / 16)++[wN (n % 16)]:=rfl;rw[e,ih (n / 16) (by rw[cQ] at h;omega),Nat.div_div_eq_div_mul,da 16,<-cQ];rfl
theorem B6 (k n:Nat):hex k n=hex k (n % 16 ^ k):=by
 induction k generalizing n with
 | zero=>rfl
 | succ k ih=>
  simp only[hex];rw[ih (n / 16),ih (n % 16 ^ (k+1) / 16)]
  congr 2
  ·rw[cQ,da,Nat.mod_mul_right_div_self,Nat.mod_mod]
  ·rw[cQ,da,Nat.mod_mul_right_mod]
theorem Lk (k n:Nat):hex (k+1) n=wN (n / 16 ^ k % 16)::hex k n:=by
 rw[B6 (k+1),Ps k _ (cY _ (Nat.pos_of_ne_zero (by simp[Nat.pow_eq_zero]))),B6 k n,B6 k (n % 16 ^ (k+1))]
 congr 2
 ·rw[cQ,Nat.mod_mul_right_div_self,Nat.mod_mod]
 ·rw[cQ,Nat.mod_mul_right_mod]
theorem known:hex 8 (tA [49,50,51,52,53,54,55,56,57])=[101,51,48,54,57,50,56,51]:=dk
end CrcM
section
open Go.RowKit CrcM
theorem Iw {k:IntKind}{a b:Int}(h:a=b):Ending.returned (.int k a)= .returned (.int k b):=by rw[h]
theorem int_eq {k}{a b:Int}(h:a=b):Value.int k a= .int k b:=by rw[h]
theorem IW (n:Nat)(h:n<4294967296):bits .and .u32 (n:Int) 1=((n % 2:Nat):Int):=by
 have:=u32_and_nat n 1 h om;rw[nat_mask1] at this;exact this
theorem MN (n:Nat)(h:n<4294967296)(h1:n % 2=1):bits .xor .u32 ((n:Int) / 2) 2197175160=((F8 n:Nat):Int):=by
 have:=u32_xor_nat (n / 2) 2197175160 om om;unfold F8;rw[aA h1,<-this];rfl
theorem Ru (n:Nat)(h1:n % 2≠1):(n:Int) / 2=((F8 n:Nat):Int):=by
 unfold F8;rw[az h1];omega
theorem Lw (c:Nat)(hc:c<256)(w:World):
 Calls prog 411 #[I U c] w λe w'=>e= .returned (.int .u32 (T8 c))/\w=w':=by
 go_enter func411,ntmps411
 go_wp2
 go_loop [3,7] (λn i=>∃ k:Nat,k<=8/\i= I J k/\n= .int .u32 (turns k c)) (λ_ i=>8 - (intOf i).toNat)
 case atStart=>exact⟨0,aD _,D,D⟩
 case round=>
  obtain⟨k,hk,rfl,rfl⟩:=hrel;have hb:=CV k c om;by_cases hlt:k<8
  ·by_cases h1:turns k c % 2=1;have ht:(bits .and .u32 (turns k c:Int) 1==1)=Q:=by rw[IW _ hb,h1];rfl
   obtain⟨ah,H1⟩:=eN (MN _ hb h1) h1;rotate_left;have ht:(bits .and .u32 (turns k c:Int) 1==1)=z:=by rw[IW _ hb];simp;omega
   have ah:=H (Ru _ h1);rotate_left
   all_goals
    clear h1
    go_wp2
    go_round
    case rel=>exact⟨k+1,om,by go_num,int_eq ah⟩
    case measure=>simp[intOf];omega
  ·obtain rfl:k=8:=om
   go_wp2
   go_ret;exact⟨D,D⟩
theorem step_eq (s c:Nat)(hs:s<4294967296)(hc:c<256):bits .xor .u32 ((s:Int) / 256) ((T8 ((s % 256) ^^^ c):Nat):Int)=((VV s c:Nat):Int):=by
 have h1:(s % 256) ^^^ c<2 ^ 8:=dG om om;have h2:=Ql ((s % 256) ^^^ c) om;have:=u32_xor_nat (s / 256) (T8 ((s % 256) ^^^ c)) om h2;unfold VV;rw[<-this];rfl
theorem O4 (s c:Nat)(hc:c<256):bits .xor .u8 ((s:Int) % 256) (c:Int)=(((s % 256) ^^^ c:Nat):Int):=by
 have:=u8_xor_nat (s % 256) c om hc;rw[<-this];rfl
def Rz (k:Nat):List Value:=(List.range 256).map λi=>Value.int .u32 ((if i<k then T8 i else 0:Nat):Int)
def Hx (k:Nat):Array Value:=(Rz k).toArray
theorem ke (k:Nat):(Hx k).size=256:=by simp[Hx,Rz]
theorem xp (k i:Nat)(hi:i<256):(Hx k)[i]?=G (.int .u32 ((if i<k then T8 i else 0:Nat):Int)):=by
 simp[Hx,Rz,hi]
theorem Ry (k:Nat)(hk:k<256):(Hx k).setIfInBounds k (.int .u32 (T8 k))=Hx (k+1):=by
 apply dD;intro i;rw[bW];by_cases hi:i<256
 ·by_cases e:k=i
  ·subst e;rw[aA D,aA (by rw[ke];exact hk),xp _ _ hi,aA om]
  ·rw[az e,xp _ _ hi,xp _ _ hi];by_cases h:i<k
   ·rw[aA h,aA om]
   ·rw[az h,az om]
 ·rw[az om,bM (by rw[ke];omega),bM (by rw[ke];omega)]
theorem C7 (k:Nat):(Hx k).all (·.oneCell')=Q:=by
 rw[Array.all_eq_true_iff_forall_mem];intro v hv;simp[Hx,Rz] at hv;obtain⟨i,_,rfl⟩:=hv;rfl
theorem wX (w:World):(zeroValue 459).run prog w= .ok (.agg (Hx 0)) w:=kr
theorem Hw:prog.underlying 459=G (.array 256 371):=kr
theorem ua:(prog.info? 459).map (·.size)=G 256:=kr
theorem zk (w:World):
 Calls prog 388 #[] w λe w'=>e= .returned (.agg (Hx 256))/\Below w.heap.size w w':=by
 have hz:=wX
 go_enter func388,ntmps388
 go_wp2
 go_loopw [3] (λi wr=>∃ k:Nat,k<=256/\i= I J k/\wr.heap[w.heap.size]?=G (.cells (Hx 0) 459 (0,0))/\wr.heap[w.heap.size+1]?=G (.cells (Hx k) 459 (0,0))/\Below w.heap.size w wr)
  (λi _=>256 - (intOf i).toNat)
 case atStart=>
  refine⟨0,aD _,D,heap_alloc2_old _ _ _,heap_alloc2_new _ _ _,?_⟩;exact((aa4 _ _).alloc (aB _) _).alloc sm _
 case round=>
  obtain⟨k,hk,rfl,h0,h1,hb⟩:=hrel;by_cases hlt:k<256
  ·have hcell:wr.cell? ⟨w.heap.size+1,k,E⟩=G (.int .u32 0):=by
    rw[ab1 _ _ _ _ _ _ h1,xp _ _ hlt,az om];rfl
   have hfz:wr.frozen? ⟨w.heap.size+1,k,E⟩=z:=frozen_of_row _ _ _ _ _ h1;obtain⟨H0,H1⟩:=eN h0 h1;clear h1
   go_wp2_with (go_at_call 411;refine QS (Lw _ om _) ?_)
   go_roundw
   case rel=>
    refine⟨k+1,om,by go_num,?_,?_,?_⟩
    ·rw[heap_setCell_other _ _ _ _ sm];exact H0
    ·rw[heap_setCell_same _ _ _ _ _ _ H1.out,Ry _ hlt]
    ·exact hb.setCell sm _
   case measure=>simp[intOf];omega
  ·obtain rfl:k=256:=om;obtain⟨H0,H1⟩:=eN h0 h1;clear h1
   go_wp2_with (first
    | refine wpList_load_row D _ _ D _ D _ _ _ _ H1 Hw D aaV ?_
    | refine wpList_store_row D _ _ _ D _ _ D D _ _ H0 aaV (by rw[ke,ke]) (C7 256) ?_)
   refine aa1 (results_cell_row D _ _ _ _ _ _ _ D (setRow_heap _ _ _ _ _ _ H0) Hw D aaV) D ⟨D,?_⟩;exact below_setRow hb (aB _) _
theorem zn (w:World):(storeCells ⟨w.heap.size,0,E⟩ (Hx 256).toList 0).run prog (w.alloc (.cells (Hx 0) 459))= .ok () (w.alloc (.cells (Hx 256) 459)):=
 run_storeCells_new w _ _ _ aaV (by rw[ke,ke]) (C7 256)
def flat (l:List ay):List UInt8:=l.flatMap (·.data.toList)
theorem Lp (l:List ay)(k:Nat)(h:k<l.length):flat (l.take (k+1))=flat (l.take k)++l[k].data.toList:=by
 unfold flat;rw[aL h,bB];simp
theorem pU (s:ay)(k:Nat)(h:k<s.size):s.data.toList.take (k+1)=s.data.toList.take k++[s[k]]:=by
 rw[aL fc];rfl
theorem nG (s:ay):s.data.toList.take s.size=s.data.toList:=bz (by show s.data.toList.length<=s.data.size;simp)
theorem To (x:Nat)(h:x<4294967296):4294967295 ^^^ x=4294967295 - x:=by
 have:=aP BitVec.toNat (BitVec.allOnes_xor (x:=BitVec.ofNat 32 x));rw[BitVec.toNat_xor,BitVec.toNat_not,BitVec.toNat_allOnes,BitVec.toNat_ofNat,Nat.mod_eq_of_lt om] at this;exact this
theorem U5 (x:Nat)(h:x<4294967296):bits .xor .u32 IntKind.u32.max (x:Int)=((4294967295 - x:Nat):Int):=by
 rw[<-To x h];exact u32_xor_nat 4294967295 x om h
def Hq (w:World)(a:Option Addr)(l:List ay):Prop:=
 ∀ j (h:j<l.length),∃ b off,a=G ⟨b,off,E⟩/\w.cell? ⟨b,off+j,E⟩=G (C l[j])
def pZ (l:List ay)(k:Nat)(s:List UInt8):Nat:=feed 4294967295 (flat (l.take k)++s)
theorem C9 (l)(k:Nat)(s):pZ l k s<4294967296:=T6 _ _ om
theorem M9 (b off cap:Nat)(l:List ay)(w:World)(hl:l.length<=9223372036854775807)(hs:∀ s,s∈l->s.size<=9223372036854775807)(hbl:l.length≠0->b<w.heap.size)
 (hc:∀ j (h:j<l.length),w.cell? ⟨b,off+j,E⟩=G (C l[j])):
 Calls prog 340 #[Z (G ⟨b,off,E⟩) l.length cap] w λe w'=>e= .returned (.int .u32 (tA (flat l)))/\Below w.heap.size w w':=by
 have hz:=wX;have hst:=zn;obtain⟨n,hn,HN⟩:=nh l.length;rw[<-hn] at hl hbl;obtain⟨HC,HS⟩:=eN hc hs;clear hc hs;rw[<-hn];clear hn
 go_enter func340,ntmps340
 go_wp2_with (go_at_call 388;refine qx (zk _) λw1 hb1=>?_)
 have hsz:=hb1.size
 go_loop [4,11] (λs i=>∃ k:Nat,k<=n/\i= I J k/\s= .int .u32 (pZ l k [])) (λ_ i=>n - (intOf i).toNat)
 case atStart=>exact⟨0,aD _,D,D⟩
 case round=>
  obtain⟨k,hk,rfl,rfl⟩:=hrel;by_cases hlt:k<n
  ·have hb2:b<w1.heap.size:=by have:=hbl om;omega
   obtain⟨s,hs,HE⟩:=nh (l[k]'(by rw[<-HN.out];exact hlt));have hcell:w1.cell? ⟨b,off+k,E⟩=G (C s):=by rw[hb1.cell (hbl om),hs];exact HC k _
   have hss:s.size<=9223372036854775807:=HS s (by rw[hs];exact aV _);clear hs
   go_wp2_with fail
   go_loop [4,17] (λt j=>∃ m:Nat,m<=s.size/\j= I J m/\t= .int .u32 (pZ l k (s.data.toList.take m))) (λ_ j=>s.size - (intOf j).toNat)
   case atStart=>exact⟨0,aD _,D,D⟩
   case round=>
    obtain⟨m,hm,rfl,rfl⟩:=hrel;have hS:=C9 l k (s.data.toList.take m);by_cases hlt2:m<s.size
    ·have hby:s[m].toNat<256:=s[m].toNat_lt;have H2:=H (show VV (pZ l k (s.data.toList.take m)) s[m].toNat=pZ l k (s.data.toList.take (m+1)) by
      unfold pZ;rw[pU s m hlt2,<-aS,Lr])
     have H3:=H (step_eq (pZ l k (s.data.toList.take m)) s[m].toNat hS hby);have hlow:=O4 (pZ l k (s.data.toList.take m)) s[m].toNat hby
     have hX:(pZ l k (s.data.toList.take m) % 256) ^^^ s[m].toNat<2 ^ 8:=dG om om;generalize pZ l k (s.data.toList.take m)=S at*;generalize (S % 256) ^^^ s[m].toNat=X at*;have htab:∀ h:X<(Hx 256).size,(Hx 256)[X]'h= .int .u32 (T8 X):=λh=>by
      have:=xp 256 X om;rw[aA om,cO h] at this;exact Option.some.inj this
     go_wp2
     go_round
     case rel=>exact⟨m+1,om,by go_num,int_eq (by rw[H3.out,H2.out])⟩
     case measure=>simp[intOf];omega
    ·go_wp2
     go_round
     case rel=>
      refine⟨k+1,om,by go_num,?_⟩;obtain rfl:m=s.size:=om;refine int_eq ?_;unfold pZ;rw[Lp l k (by rw[<-HN.out];exact hlt),<-HE.out,aY,nG]
     case measure=>simp[intOf];omega
  ·go_wp2
   go_ret;obtain rfl:k=n:=om;refine⟨Iw ?_,hb1.alloc om _⟩;rw[U5 _ (C9 _ _ _)];unfold pZ tA;rw[HN.out,aT,aY]
theorem M8 (a:Option Addr)(cap:Nat)(w:World):
 Calls prog 340 #[Z a 0 cap] w λe w'=>e= .returned (.int .u32 (tA (flat [])))/\Below w.heap.size w w':=by
 have hz:=wX;have hst:=zn
 go_enter func340,ntmps340
 go_wp2_with (go_at_call 388;refine qx (zk _) λw1 hb1=>?_)
 refine wp_loop_rounds 1 ?_;rw[rounds_succ]
 go_wp2
 go_ret;exact⟨Iw (by rw[show(4294967295:Int)=((4294967295:Nat):Int) from rfl,U5 _ om];rfl),hb1.alloc hb1.size _⟩
theorem RC (a)(cap:Nat)(l:List ay)(w)(hl:l.length<=9223372036854775807)(hs:∀ s,s∈l->s.size<=9223372036854775807)(hc:Hq w a l):
 Calls prog 340 #[Z a l.length cap] w λe w'=>e= .returned (.int .u32 (tA (flat l)))/\Below w.heap.size w w':=by
 match l,hl,hs,hc with
 | [],_,_,_=>exact M8 a cap w
 | s::r,hl,hs,hc=>
  obtain⟨b,off,rfl,h0⟩:=hc 0 sm;refine M9 b off cap (s::r) w hl hs (λ_=>block_lt_of_cell h0) (λj h=>?_);obtain⟨b',off',e,h1⟩:=hc j h;simp at e;obtain⟨rfl,rfl⟩:=e;exact h1
def Pt (n wide i:Nat):Nat:=(wN (n / 16 ^ (wide - 1 - i) % 16)).toNat
def rU (n wide k:Nat):Array Value:=((List.range wide).map λi=>I U ((if wide - k<=i then Pt n wide i else 0:Nat):Int)).toArray
theorem sh:prog.underlying 203=G (.slice 5):=kr
theorem FZ:prog.underlying 5=G (.int .u8):=kr
theorem sV:prog.underlying 9=G .string:=kr
theorem TK:(prog.info? 5).map (λi=>(i.zero,i.size,i.bytes))=G (G (I U 0),1,1):=kr
theorem oM (n wide k:Nat):(rU n wide k).size=wide:=by simp[rU]
theorem nv (n wide k i:Nat)(h:i<wide):(rU n wide k)[i]?=G (I U ((if wide - k<=i then Pt n wide i else 0:Nat):Int)):=by
 simp[rU,h]
theorem G5 (n wide k:Nat)(hk:k<wide):(rU n wide k).setIfInBounds (wide - 1 - k) (I U (Pt n wide (wide - 1 - k)))=rU n wide (k+1):=by
 apply dD;intro i;rw[bW];by_cases hi:i<wide
 ·by_cases e:wide - 1 - k=i
  ·rw[aA e,e,aA (by rw[oM];exact hi),nv _ _ _ _ hi,aA om]
  ·rw[az e,nv _ _ _ _ hi,nv _ _ _ _ hi];by_cases h:wide - k<=i
   ·rw[aA h,aA om]
   ·rw[az h,az om]
 ·rw[az om,bM (by rw[oM];omega),bM (by rw[oM];omega)]
theorem EF (n wide:Nat):madeCells #[I U 0] wide=rU n wide 0:=by
 apply dD;intro i;by_cases hi:i<wide
 ·rw[nv _ _ _ _ hi,az om];simp[madeCells,hi,Nat.mod_one]
 ·rw[bM (by rw[size_madeCells];omega),bM (by rw[oM];omega)]
theorem TR (k n i:Nat)(h:i<k):(hex k n)[i]?=G (wN (n / 16 ^ (k - 1 - i) % 16)):=by
 induction k generalizing n i with
 | zero=>omega
 | succ k ih=>
  rw[Lk]
  match i with
  | 0=>simp
  | i+1=>
   rw[List.getElem?_cons_succ,ih n i om]
   congr 5
   omega
theorem RQ (aq:Nat)(h:aq<16)(hx):((⟨#[48,49,50,51,52,53,54,55,56,57,97,98,99,100,101,102]⟩:ay)[aq]'hx)=wN aq:=by
 have all:∀ aq,aq<16->∀ hx,((⟨#[48,49,50,51,52,53,54,55,56,57,97,98,99,100,101,102]⟩:ay)[aq]'hx)=wN aq:=by
  intro aq hD hx;rcases(show aq=0∨aq=1∨aq=2∨aq=3∨aq=4∨aq=5∨aq=6∨aq=7∨aq=8∨aq=9∨aq=10∨aq=11∨aq=12∨aq=13∨aq=14∨aq=15 from by omega) with rfl | rfl | rfl | rfl | rfl | rfl | rfl | rfl | rfl | rfl | rfl | rfl | rfl | rfl | rfl | rfl<;>rfl
 exact all aq h hx
theorem nib (n k:Nat)(h:n<9223372036854775808):bits .and .i64 ((n:Int) / 2 ^ (4*k)) 15=((n / 16 ^ k % 16:Nat):Int):=by
 have e:(2:Nat) ^ (4*k)=16 ^ k:=by rw[Nat.pow_mul]
 have h1:n / 16 ^ k<9223372036854775808:=Nat.lt_of_le_of_lt (Nat.div_le_self _ _) h;have e2:(n:Int) / 2 ^ (4*k)=((n / 16 ^ k:Nat):Int):=by rw[<-e];simp
 rw[e2];generalize n / 16 ^ k=x at*;have:=bits_mask .i64 63 dc (λm h0 h2=>IntWalk.i64_in m om) 4 dc (x:Int) om om;exact this
theorem Uv (n wide:Nat)(hw2:wide<=12)(hn:n<16 ^ wide):n<281474976710656:=by
 have:=Nat.pow_le_pow_right (n:=16) om hw2;omega
theorem yr (n wide:Nat)(w:World)(hw:1<=wide)(hw2:wide<=12)(hn:n<16 ^ wide):
 Calls prog 166 #[I J n,I J wide] w λe w'=>e= .returned (C ⟨(hex wide n).toArray⟩)/\Below w.heap.size w w':=by
 have hmk:=run_make_row' (P:=prog) _ _ _ _ sh TK D .i64 .i64 wide om om;have hbig:=Uv n wide hw2 hn;have hn0:((n:Int) / 2 ^ (4*wide) != 0)=z:=by
  have e:(2:Nat) ^ (4*wide)=16 ^ wide:=by rw[Nat.pow_mul]
  have h1:n / 2 ^ (4*wide)=0:=by rw[e];exact Nat.div_eq_of_lt hn
  have:((n / 2 ^ (4*wide):Nat):Int)=0:=by rw[h1];rfl
  simp at this;simp[this]
 have HN:=H hn;clear hn
 go_enter func166,ntmps166
 go_wp2
 go_loopw [27] (λi wr=>∃ k:Nat,k<=wide/\i= I J k/\wr.heap[w.heap.size]?=G (.cells (rU n wide k) 5 (0,0))/\Below w.heap.size w wr) (λi _=>wide - (intOf i).toNat)
 case atStart=>
  refine⟨0,aD _,D,?_,(aa4 _ _).alloc (aB _) _⟩;rw[heap_alloc_new,EF n wide]
 case round=>
  obtain⟨k,hk,rfl,h0,hb⟩:=hrel;have H0:=H h0;by_cases hlt:k<wide
  ·have hcell:wr.cell? ⟨w.heap.size,wide - 1 - k,E⟩=G (I U 0):=by
    rw[ab1 _ _ _ _ _ _ h0,nv _ _ _ _ om,az om];rfl
   have hfz:wr.frozen? ⟨w.heap.size,wide - 1 - k,E⟩=z:=frozen_of_row _ _ _ _ _ h0;clear h0;have hnib:=nib n k om;have hD:n / 16 ^ k % 16<16:=cY _ om;have HV:=H (show(wN (n / 16 ^ k % 16)).toNat=Pt n wide (wide - 1 - k) by unfold Pt;rw[show wide - 1 - (wide - 1 - k)=k by omega]);generalize n / 16 ^ k % 16=aq at*;have HG:=H (RQ aq hD)
   go_wp2
   go_roundw
   case rel=>
    refine⟨k+1,om,by go_num,?_,hb.setCell sm _⟩;rw[HG.out,HV.out,heap_setCell_same _ _ _ _ _ _ H0.out,G5 _ _ _ hlt]
   case measure=>simp[intOf];omega
  ·obtain rfl:k=wide:=om;have hcv:(convert 203 9 (Z (G ⟨w.heap.size,0,E⟩) k k)).run prog wr= .ok (C ⟨(hex k n).toArray⟩) wr:=by
    have hlen:=gP k n;have:=run_convert_bytes_back (P:=prog) wr 203 9 _ ⟨w.heap.size,0,E⟩ k (hex k n) sh FZ sV (λj hj=>by
     rw[hlen] at hj;have hadd:(⟨w.heap.size,0,E⟩:Addr).add j=⟨w.heap.size,j,E⟩:=by unfold Addr.add;split<;>simp_all
     have hg:=TR k n j hj;rw[aW (by rw[hlen];exact hj)] at hg;rw[hadd,ab1 _ _ _ _ _ _ h0,nv _ _ _ _ hj,aA om,Option.some.inj hg];rfl)
    rw[hlen] at this;exact this
   clear h0
   go_wp2
   go_ret;exact⟨D,hb⟩
theorem Ez (n wide:Nat)(w:World)(hw:1<=wide)(hw2:wide<=12)(hn:16 ^ wide<=n)(_hn2:n<9223372036854775808):
 Calls prog 166 #[I J n,I J wide] w λe w'=>e= .returned ax/\w=w':=by
 have hn0:((n:Int) / 2 ^ (4*wide) != 0)=Q:=by
  have e:(2:Nat) ^ (4*wide)=16 ^ wide:=by rw[Nat.pow_mul]
  have h1:0<n / 2 ^ (4*wide):=by rw[e];exact Nat.div_pos hn (Nat.pos_of_ne_zero (by simp[Nat.pow_eq_zero]))
  have e2:(n:Int) / 2 ^ (4*wide)=((n / 2 ^ (4*wide):Nat):Int):=sm;rw[e2,bne_iff_ne];omega
 clear hn
 go_enter func166,ntmps166
 go_wp2
 go_ret;exact⟨D,D⟩
theorem TQ (n:Int)(wide:Nat)(w:World)(hw:1<=wide)(hw2:wide<=12)(hn:n<0):
 Calls prog 166 #[I J n,I J wide] w λe w'=>e= .returned ax/\w=w':=by
 go_enter func166,ntmps166
 go_wp2
 go_ret;exact⟨D,D⟩
theorem Pa (n:Nat)(h:n<10):wN n=UInt8.ofNat (48+n):=by unfold wN;rw[aA h]
theorem Rd (n:Nat)(h:¬n<10):wN n=UInt8.ofNat (87+n):=by unfold wN;rw[az h]
theorem yA (w:World)(x:Int)(c:Nat)(hx:x=c)(hc:c<256):
 (convert 203 9 (Z (G ⟨w.heap.size,0,E⟩) 1 1)).run prog (w.alloc (.cells #[I U x] 5))= .ok (C ⟨#[UInt8.ofNat c]⟩) (w.alloc (.cells #[I U x] 5)):=by
 subst hx;have:=run_convert_bytes_back (P:=prog) (w.alloc (.cells #[I U c] 5)) 203 9 _ ⟨w.heap.size,0,E⟩ 1 [UInt8.ofNat c] sh FZ sV (λj hj=>by
  obtain rfl:j=0:=by simp at hj;exact hj
  have e:(UInt8.ofNat c).toNat=c:=by simp;omega
  simp[Addr.add,e])
 exact this
theorem LH (n:Nat)(w:World)(hn:n<16):
 Calls prog 70 #[I J n] w λe w'=>e= .returned (C ⟨#[wN n]⟩)/\Below w.heap.size w w':=by
 by_cases h:n<10;have hcv:=yA w (48+(n:Int)) (48+n) om om;rw[<-Pa n h] at hcv;rotate_left;have hcv:=yA w (87+(n:Int)) (87+n) om om;rw[<-Rd n h] at hcv;rotate_left
 all_goals
  go_enter func70,ntmps70
  go_wp2
  go_ret;exact⟨D,(aa4 _ _).alloc (aB _) _⟩
def vg (k n:Nat):ay:=⟨(hex k n).toArray⟩
def EG (wide n:Nat):ay:=if n<16 ^ wide then vg wide n else ByteArray.empty
theorem zY (k n:Nat):(vg k n).size=k:=by show(hex k n).toArray.size=k;simp[gP]
theorem I9 (n wide:Nat)(w:World)(hw:1<=wide)(hw2:wide<=12)(hn:n<9223372036854775808):
 Calls prog 166 #[I J n,I J wide] w λe w'=>e= .returned (C (EG wide n))/\Below w.heap.size w w':=by
 by_cases h:n<16 ^ wide
 ·refine qx (yr n wide w hw hw2 h) λw' hb=>?_;exact⟨by unfold EG;rw[aA h];rfl,hb⟩
 ·refine QS (Ez n wide w hw hw2 om hn) ?_;exact⟨by unfold EG;rw[az h];rfl,aa4 _ _⟩
theorem zX (wide n:Nat)(h:n<16 ^ wide):EG wide n=vg wide n:=by unfold EG;rw[aA h]
theorem MX (a)(cap:Nat)(l:List ay)(w)(hl:l.length<=9223372036854775807)(hs:∀ s,s∈l->s.size<=9223372036854775807)(hc:Hq w a l):
 Calls prog 268 #[Z a l.length cap] w λe w'=>e= .returned (C (vg 8 (tA (flat l))))/\Below w.heap.size w w':=by
 have hlt:=Wa (flat l);have HO:=zX 8 (tA (flat l)) om;obtain⟨HC,HS⟩:=eN hc hs;clear hc hs
 go_enter func268,ntmps268
 go_wp2_with fail
 refine qx (RC _ _ _ _ hl HS HC) λw1 hb1=>?_
 go_wp2_with fail
 refine qx (I9 _ 8 _ om om om) λw2 hb2=>?_
 go_wp2
 go_ret;exact⟨D,hb1.trans (hb2.mono hb1.size)⟩
theorem Ge (w:World)(b:Nat)(s)(h:w.cell? ⟨b,0,E⟩=G (C s)):Hq w (G ⟨b,0,E⟩) [s]:=by
 intro j hj;obtain rfl:j=0:=by simp at hj;exact hj
 exact⟨_,_,D,h⟩
theorem PJ (s:ay):flat [s]=s.data.toList:=by simp[flat]
theorem C5 (b:Nat)(s:ay)(w:World)(hs:s.size<=9223372036854775807)(h:w.cell? ⟨b,0,E⟩=G (C s)):
 Calls prog 268 #[Z (G ⟨b,0,E⟩) 1 1] w λe w'=>e= .returned (C (vg 8 (tA s.data.toList)))/\Below w.heap.size w w':=by
 have:=MX (G ⟨b,0,E⟩) 1 [s] w sm (by simpa using hs) (Ge w b s h);rw[PJ] at this;exact this
theorem kE:Below B w w.drew:=(aa4 _ _).drew
