/- Lemmas for AfterglowSecret: what functions of the program return; no condition. -/
import Derived.Lib.SplitLaws
import Derived.Lib.Join
import Derived.Lib.ItoaNum
import Derived.Lib.ItoaMem
import Derived.Lib.AtoiAll
import Derived.Lib.IndexBytes
import Derived.Test.YtkpdknkidnfgiaaGreatDoorJA
set_option maxHeartbeats 0
set_option maxRecDepth 100000
set_option linter.unusedVariables false
open Option renaming none->E,some->G
open Bool renaming true->Q,false->z
namespace Go.Proofs.YtkpdknkidnfgiaaGreatDoor
variable {n:Nat}
namespace Tp
open Go
def sp:List UInt8->List (List UInt8)
 | []=>[[]]
 | c::r=>if c=32 then []::sp r else match sp r with
   | []=>[[c]]
   | x::t=>(c::x)::t
theorem Ik:∀ l,sp l≠[]
 | []=>by simp[sp]
 | c::r=>by
   unfold sp
   split
   ·simp
   ·split<;>simp
theorem wg {c:UInt8}(h:c≠32)(r):∃ x t,sp r=x::t/\sp (c::r)=(c::x)::t:=by
 cases hs:sp r with
 | nil=>exact absurd hs (Ik r)
 | cons x t=>exact⟨x,t,D,by unfold sp;rw[az h,hs]⟩
theorem I1:∀ l,Lib.join (sp l) [32]=l
 | []=>rfl
 | c::r=>by
   have ih:=I1 r;by_cases h:c=32
   ·subst h;have e:sp (32::r)=[]::sp r:=by
     conv=>lhs;unfold sp
     rw[aA D]
    rw[e];cases hs:sp r with
    | nil=>exact absurd hs (Ik r)
    | cons x t=>
     rw[hs] at ih;rw[Lib.join_cons] at ih ⊢;rw[show Lib.joinTail [32] (x::t)=[32]++x++Lib.joinTail [32] t by simp[Lib.joinTail]];simp[<-ih]
   ·obtain⟨x,t,h1,h2⟩:=wg h r;rw[h1] at ih;rw[h2,Lib.join_cons];rw[Lib.join_cons] at ih;simp[<-ih]
theorem Ij:∀ {x:List UInt8},32∉x->sp x=[x]
 | [],_=>rfl
 | c::r,h=>by
   have hc:c≠32:=λe=>h (by rw[e];simp);have ih:=Ij (x:=r) (λhh=>h (cV _ hh));obtain⟨x,t,h1,h2⟩:=wg hc r;rw[ih] at h1;injection h1 with h3 h4
   rw[h2,<-h3,<-h4]
theorem Ng:∀ {x:List UInt8} (r:List UInt8),32∉x->sp (x++32::r)=x::sp r
 | [],r,_=>by
   show sp (32::r)=_
   conv=>lhs;unfold sp
   rw[aA D]
 | c::y,r,h=>by
   have hc:c≠32:=λe=>h (by rw[e];simp);have ih:=Ng (x:=y) r (λhh=>h (cV _ hh));obtain⟨x,t,h1,h2⟩:=wg hc (y++32::r);rw[ih] at h1;injection h1 with h3 h4
   rw[bq,h2,<-h3,<-h4]
theorem Il:∀ {ws:List (List UInt8)},ws≠[]->(∀ x∈ws,32∉x)->sp (Lib.join ws [32])=ws
 | [],h,_=>absurd D h
 | [x],_,h=>by rw[Lib.join_one];exact Ij (h x sm)
 | x::y::r,_,h=>by
   have ih:=Il (ws:=y::r) sm (λau hz=>h au (cV _ hz));rw[Lib.join_cons,show Lib.joinTail [32] (y::r)=32::Lib.join (y::r) [32] by rw[Lib.join_cons];simp[Lib.joinTail]];rw[Ng _ (h x sm),ih]
theorem idx_eq (r:List UInt8):Lib.index (32::r) [32]=0:=by rw[Lib.index_one];unfold Lib.indexByte;simp
theorem Xb {b:UInt8}(h:b≠32)(r:List UInt8):Lib.index (b::r) [32]=if Lib.index r [32]== -1 then -1 else Lib.index r [32]+1:=by
 rw[Lib.index_one,Lib.index_one]
 conv=>lhs;unfold Lib.indexByte
 rw[az fc]
theorem Dc:∀ s,Lib.split s [32]=sp s
 | []=>rfl
 | b::r=>by
   have ih:=Dc r;unfold Lib.split at ih ⊢;by_cases hb:b=32
   ·subst hb;rw[Lib.count_cons_eq,Nat.add_comm];have e:sp (32::r)=[]::sp r:=by
     conv=>lhs;unfold sp
     rw[aA D]
    rw[e,<-ih]
    conv=>lhs;unfold Lib.splitK
    rw[idx_eq];simp
   ·rw[Lib.count_cons_ne _ _ _ hb];obtain⟨x,t,h1,h2⟩:=wg hb r;rw[h2];rw[h1] at ih;cases hk:Lib.count r [32] with
    | zero=>
     rw[hk] at ih;unfold Lib.splitK at ih ⊢;injection ih with h3 h4
     rw[<-h3,<-h4]
    | succ k=>
     rw[hk] at ih;unfold Lib.splitK at ih ⊢;rw[Xb hb];by_cases hi:Lib.index r [32]= -1
     ·rw[hi] at ih ⊢;simp at ih ⊢;exact ih
     ·have hge:=Lib.index_ge r [32];have hb1:(Lib.index r [32]== -1)=z:=by rw[aX];exact hi
      rw[hb1] at ih ⊢;have hb2:(Lib.index r [32]+1== -1)=z:=by rw[aX];omega
      simp only[dw,if_false] at ih ⊢;rw[hb2];simp only[dw,if_false];injection ih with h3 h4
      rw[show(Lib.index r [32]+1).toNat=(Lib.index r [32]).toNat+1 by omega];simp only[dA] at h3 ⊢;rw[cK,h3,show(Lib.index r [32]).toNat+1+[(32:UInt8)].length=((Lib.index r [32]).toNat+[(32:UInt8)].length)+1 by omega,cn,h4]
theorem zH:∀ (l:List UInt8) (acc:Nat) (m:List UInt8) (u:Nat),Lib.parseUint10 acc l= .ok u->Lib.parseUint10 acc (l++m)=Lib.parseUint10 u m
 | [],acc,m,u,h=>by simp only[Lib.parseUint10] at h;injection h with h;rw[h];rfl
 | c::r,acc,m,u,h=>by
   rw[bq];simp only[Lib.parseUint10] at h ⊢
   split at h
   ·split at h
    ·cases h
    ·split at h
     ·cases h
     ·rename_i h1 h2 h3;rw[aA h1,az h2,az h3];exact zH r _ m u h
   ·cases h
theorem Km:∀ (n:Nat),n<1844674407370955161->Lib.parseUint10 0 (Lib.decDigits n)= .ok n:=by
 intro n
 induction n using Nat.strongRecOn with
 | _ n ih=>
  intro hn;unfold Lib.decDigits;by_cases h:n<10;rw[dif_pos h];have ht:(UInt8.ofNat (48+n)).toNat=48+n:=by rw[dW];omega
  rotate_left;rw[dif_neg h,zH _ 0 _ (n / 10) (ih (n / 10) om om)];have ht:(UInt8.ofNat (48+n % 10)).toNat=48+n % 10:=by rw[dW];omega
  rotate_left
  all_goals
   simp only[Lib.parseUint10];rw[ht,aA om,az om,az om]
   congr 1
   omega
theorem Hf (n:Nat):Lib.decDigits n≠[]:=by
 unfold Lib.decDigits
 split<;>simp
theorem Ah:∀ (n:Nat),∀ c∈Lib.decDigits n,48<=c.toNat/\c.toNat<=57:=by
 intro n
 induction n using Nat.strongRecOn with
 | _ n ih=>
  intro c hc;unfold Lib.decDigits at hc;by_cases h:n<10
  ·rw[dif_pos h] at hc;rw[bP] at hc;subst hc;rw[dW];omega
  ·rw[dif_neg h,bG] at hc;rcases hc with hc | hc
   ·exact ih (n / 10) om c hc
   ·rw[bP] at hc;subst hc;rw[dW];omega
theorem QV(h:n<=1099511627776):Lib.atoiAll (Lib.decDigits n)= .ok (n:Int):=by
 have hp:=Km n om;cases hd:Lib.decDigits n with
 | nil=>exact absurd hd (Hf n)
 | cons c r=>
  have hc:=Ah n c (by rw[hd];simp);rw[hd] at hp;unfold Lib.atoiAll Lib.parseMag;simp only;rw[az (show ¬(c.toNat=43∨c.toNat=45) by omega),az sm,hp];simp only;rw[az om,az om,az om]
def sK (n:Int):List UInt8:=if 0<=n/\n<=1099511627776 then Lib.decDigits n.toNat else []
def JL (l:List UInt8):Option Int:=match Lib.atoiAll l with
 | .ok v=>if sK v=l/\l≠[] then G v else E
 | _=>E
theorem Rt {n:Int}(h0:0<=n)(h1:n<=1099511627776):JL (sK n)=G n:=by
 have e:sK n=Lib.decDigits n.toNat:=by unfold sK;rw[aA ⟨h0,h1⟩]
 have ha:=QV (n:=n.toNat) om;unfold JL;rw[e,ha];have h2:((n.toNat:Nat):Int)=n:=om;simp only[h2];rw[aA ⟨by rw[e],Hf _⟩]
