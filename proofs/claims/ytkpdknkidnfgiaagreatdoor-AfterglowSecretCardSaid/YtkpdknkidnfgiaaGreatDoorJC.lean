/- Lemmas for AfterglowSecret: what functions of the program return; no condition. -/
import Derived.Test.YtkpdknkidnfgiaaGreatDoorJB
import Derived.Test.YtkpdknkidnfgiaaGreatDoorQD
set_option maxHeartbeats 0
set_option maxRecDepth 100000
set_option linter.unusedVariables false
open Go.Value renaming int->I,string->C,slice->Z
open Go.IntKind renaming i64->J,u8->U
open Option renaming none->E,some->G
open Bool renaming true->Q,false->z
open Go.Lib renaming hid->H
open Go.Proofs.Tryz
namespace Go.Proofs.YtkpdknkidnfgiaaGreatDoor
theorem qM{p:Prop}(h:p:=by
 refine OP.mono ?_;rintro e w4 ⟨rfl,D4,K4⟩;have HD:=H D4
 go_wp2
 go_ret;exact⟨by unfold jY;rw[HW.out];rfl,by unfold jY;rw[HW.out];exact HD,(K2.trans (Kp.jR hb3)).trans K4⟩):p:=h
theorem qU{p:Prop}(h:p:=by
 refine OP.mono ?_;rintro e w4 ⟨rfl,D4,K4⟩;have HD:=H D4
 go_wp2
 go_ret;exact⟨by unfold lg;rw[HW.out];rfl,by unfold lg;rw[HW.out];exact HD,(K2.comp ((Kp.jR hb3).comp (Kp.drewN _ _))).comp K4⟩):p:=h
theorem abv{p:Prop}(h:p:=by show(_:Int)<=S.used;rw[HB.out.used];exact Int.ofNat_le.2 PM):p:=h
theorem qZ{p:Prop}(h:p:=by
 rintro e w4 ⟨rfl,D4,K4⟩;have HD:=H D4
 go_wp2
 go_ret;exact⟨by unfold Ag;rw[HW.out];rfl,by unfold Ag;rw[HW.out];exact HD,(K2.comp (Kp.jR hb3)).comp K4⟩):p:=h
variable {a:ByteArray} {b c cap j kb m n:Nat} {w w' w1 w2:World}
namespace Ds
open Go.RowKit Go.Maps DkM
def uI (L:List Fl)(n:ay):Nat:=if Av n=Q/\(gG L n).isSome=z then 0 else 51
def jY (S:Dk)(n:ay):Dk×Nat:=zK S (uI S.L n) {tick S with L:=ja S.L ⟨n,lE,lE⟩}
theorem xm {L}{n}(h:(gG L n).isSome=Q):vN L n=0:=by unfold vN;rw[h];rfl
theorem xo {L}{n}(h:(gG L n).isSome=z):vN L n=51:=by unfold vN;rw[h];rfl
section
variable {w:World}{p b:Nat}{S:Dk}
theorem ml(h:n<=1048576):n<maxLen:=by unfold maxLen;omega
theorem vV{x:Nat}{v}(h:w.cell? ⟨x,0,E⟩=G v)(k:Kp p b w w1)(h1:x≠p)(h2:x≠b):w1.cell? ⟨x,0,E⟩=G v:=(k.cell (eU h) h1 h2).trans h
theorem Uu (w:World)(v:Value)(T:TypeId):(w.alloc (.cells #[v] T)).cell? ⟨w.heap.size,0,E⟩=G v:=sm
theorem wR (w:World)(v u:Value)(T ai:TypeId):((w.alloc (.cells #[v] T)).alloc (.cells #[u] ai)).cell? ⟨w.heap.size,0,E⟩=G v:=sm
theorem wQ (w:World)(v u:Value)(T ai:TypeId):((w.alloc (.cells #[v] T)).alloc (.cells #[u] ai)).cell? ⟨w.heap.size+1,0,E⟩=G u:=by
 simp
theorem ox (h:eF w p b S)(B:Bd S){n:ay}(hn:n.size<=maxLen):
 Calls prog 101 #[ptr p,.string n] w (jE (jY S n) p b w):=by
 have hs:n.size<=9223372036854775807:=by unfold maxLen at hn;omega
 have hp:=h.fo.lt;have hb:=h.own.lt;have HM:=H hn;have D2:eF ((w.alloc (.cells #[ptr p] 75)).alloc (.cells #[.string n] 9)) p b S:=(h.alloc _).alloc _;have hD2:=H D2;have K2:Kp p b w ((w.alloc (.cells #[ptr p] 75)).alloc (.cells #[.string n] 9)):=(Kp.alloc _ _).trans (Kp.alloc _ _);have X2:=wR w (ptr p) (.string n) 75 9;have Y2:=wQ w (ptr p) (.string n) 75 9;have hlen:=ml B.len;have HB:=H B;clear h hn;cases hr:Av n with
 | false=>
  obtain⟨HW,HR⟩:=eN (show uI S.L n=51 by unfold uI;rw[az (by rw[hr];simp)]) hr;clear hr
  go_enter func101,ntmps101
  go_wp2_with (go_at_call 168;refine(lM n _ hs).mono ?_;rw[HR.out];rintro e w1 ⟨rfl,rfl⟩)
  have OP:Calls prog 170 #[ptr p,I J 51,.func (.func 171) #[] #[ptr w.heap.size,ptr (w.heap.size+1)]] _ _:=pK hD2 HB 51 (S':={tick S with L:=ja S.L ⟨n,lE,lE⟩}) (λ_ he _=>absurd he dc) (λ_=>eG);refine OP.mono ?_;rintro e w3 ⟨rfl,D3,K3⟩;have HD:=H D3
  go_wp2
  go_ret;exact⟨by unfold jY;rw[HW.out];rfl,by unfold jY;rw[HW.out];exact HD,K2.trans K3⟩
 | true=>
  have HR:=H hr;cases ht:(gG S.L n).isSome with
  | true=>
   obtain⟨HW,HT⟩:=eN (show uI S.L n=51 by unfold uI;rw[az (by rw[ht];simp)]) (xm ht);clear hr ht
   go_enter func101,ntmps101
   go_wp2_with (first | (go_at_call 168;refine(lM n _ hs).mono ?_;rw[HR.out];rintro e w1 ⟨rfl,rfl⟩) | (go_at_call 169;refine(jV hD2 HM).mono ?_;rw[HT.out];rintro e w3 ⟨rfl,hb3⟩;have X3:w3.cell? ⟨w.heap.size,0,E⟩=G (ptr p):=(hb3.cell (eU X2)).trans X2;have Y3:w3.cell? ⟨w.heap.size+1,0,E⟩=G (.string n):=(hb3.cell (eU Y2)).trans Y2))
   have D3:=hD2.fp hb3;have OP:Calls prog 170 #[ptr p,I J 51,.func (.func 171) #[] #[ptr w.heap.size,ptr (w.heap.size+1)]] _ _:=pK D3 HB 51 (S':={tick S with L:=ja S.L ⟨n,lE,lE⟩}) (λ_ he _=>absurd he dc) (λ_=>eG);exact qM
  | false=>
   obtain⟨HW,HT⟩:=eN (show uI S.L n=0 by unfold uI;rw[aA ⟨hr,ht⟩]) (xo ht);clear hr ht
   go_enter func101,ntmps101
   go_wp2_with (first | (go_at_call 168;refine(lM n _ hs).mono ?_;rw[HR.out];rintro e w1 ⟨rfl,rfl⟩) | (go_at_call 169;refine(jV hD2 HM).mono ?_;rw[HT.out];rintro e w3 ⟨rfl,hb3⟩;have X3:w3.cell? ⟨w.heap.size,0,E⟩=G (ptr p):=(hb3.cell (eU X2)).trans X2;have Y3:w3.cell? ⟨w.heap.size+1,0,E⟩=G (.string n):=(hb3.cell (eU Y2)).trans Y2))
   have D3:=hD2.fp hb3;have OP:Calls prog 170 #[ptr p,I J 0,.func (.func 171) #[] #[ptr w.heap.size,ptr (w.heap.size+1)]] _ _:=pK D3 HB 0 (S':={tick S with L:=ja S.L ⟨n,lE,lE⟩}) (λ_ _ _ w1 D1 k=>Fh D1 hlen HM (vV X3 k om om) (vV Y3 k om om)) (λ_=>eG);exact qM
end
def xa (S:Dk)(n t:ay):Nat:=if(gG S.L n).isSome=z then 51 else if S.ld - S.used<(t.size:Nat) then 52 else 0
def Fe (S:Dk)(n t:ay):Dk:={tick S with L:=ja S.L ⟨n,((gG S.L n).getD ⟨n,lE,lE⟩).s,((gG S.L n).getD ⟨n,lE,lE⟩).l++t⟩,used:=S.used+(t.size:Nat)}
def lg (S:Dk)(n t:ay):Dk×Nat:=zK S (xa S n t) (Fe S n t)
theorem Kp.comp {p:Nat}(h:Kp p b w w1)(k:Kp p b w1 w2):Kp p b w w2:=h.trans k
theorem QP (w:World)(u v x:Value)(T ai X:TypeId):(((w.alloc (.cells #[u] T)).alloc (.cells #[v] ai)).alloc (.cells #[x] X)).cell? ⟨w.heap.size,0,E⟩=G u:=
 (World.cell?_alloc_lt _ _ _ (eU (wR w u v T ai))).trans (wR w u v T ai)
theorem QO (w:World)(u v x:Value)(T ai X:TypeId):(((w.alloc (.cells #[u] T)).alloc (.cells #[v] ai)).alloc (.cells #[x] X)).cell? ⟨w.heap.size+1,0,E⟩=G v:=
 (World.cell?_alloc_lt _ _ _ (eU (wQ w u v T ai))).trans (wQ w u v T ai)
theorem QN (w:World)(u v x:Value)(T ai X:TypeId):(((w.alloc (.cells #[u] T)).alloc (.cells #[v] ai)).alloc (.cells #[x] X)).cell? ⟨w.heap.size+1+1,0,E⟩=G x:=by
 have:=Uu ((w.alloc (.cells #[u] T)).alloc (.cells #[v] ai)) x X;rw[show((w.alloc (.cells #[u] T)).alloc (.cells #[v] ai)).heap.size=w.heap.size+1+1 by simp] at this;exact this
section
variable {w:World}{p b:Nat}{S:Dk}
theorem yG (h:eF w p b S)(B:Bd S){n t:ay}(hn:n.size<=maxLen)(ht:t.size<=9223372036854775807):
 Calls prog 134 #[ptr p,.string n,.string t] w (jE (lg S n t) p b w):=by
 have hp:=h.fo.lt;have hb:=h.own.lt;have HM:=H hn;obtain⟨w2,hw2,HW2⟩:=nh (((w.alloc (.cells #[ptr p] 75)).alloc (.cells #[.string n] 9)).alloc (.cells #[.string t] 9));have hD2:Hid (eF w2 p b S):=H (by rw[hw2];exact((h.alloc _).alloc _).alloc _);have K2:Kp p b w w2:=by rw[hw2];exact((Kp.alloc _ _).trans (Kp.alloc _ _)).trans (Kp.alloc _ _)
 have X2:w2.cell? ⟨w.heap.size,0,E⟩=G (ptr p):=by rw[hw2];exact QP _ _ _ _ _ _ _
 have Y2:w2.cell? ⟨w.heap.size+1,0,E⟩=G (.string n):=by rw[hw2];exact QO _ _ _ _ _ _ _
 have Z2:w2.cell? ⟨w.heap.size+1+1,0,E⟩=G (.string t):=by rw[hw2];exact QN _ _ _ _ _ _ _
 have hlen:=ml B.len;have HB:=H B;have h1:=B.YQ;have h2:=B.YP;have h3:=B.used;have h4:=B.xd;have h5:0<=S.used:=om;have h6:S.used<=1073741824:=om;clear h hn hw2;cases hf:(gG S.L n).isSome with
 | false=>
  obtain⟨HW,HT⟩:=eN (show xa S n t=51 by unfold xa;rw[aA hf]) (xo hf)
  go_enter func134,ntmps134
  go_wp2_with (go_at_call 169;rw[<-HW2.out];refine(jV hD2 HM).mono ?_;rw[HT.out];rintro e w3 ⟨rfl,hb3⟩;have X3:w3.cell? ⟨w.heap.size,0,E⟩=G (ptr p):=(hb3.cell (eU X2)).trans X2;have Z3:w3.cell? ⟨w.heap.size+1+1,0,E⟩=G (.string t):=(hb3.cell (eU Z2)).trans Z2)
  go_quiet (fail)
  have D3:=(hD2.fp hb3).drewN nq
  go_wp2_with fail
  have OP:Calls prog 170 #[ptr p,I J 51,.func (.func 210) #[] #[ptr w.heap.size,ptr (w.heap.size+1),ptr (w.heap.size+1+1)]] _ _:=pK D3 HB 51 (S':=Fe S n t) (λ_ he _=>absurd he dc) (λ_=>eG);exact qU
 | true=>
  have HT:=H (xm hf);by_cases hbig:S.ld - S.used<(t.size:Nat);have HW:=H (show xa S n t=52 by unfold xa;rw[az (by rw[hf];simp),aA hbig]);clear hf;rotate_left;have HW:=H (show xa S n t=0 by unfold xa;rw[az (by rw[hf];simp),az hbig]);obtain⟨f,hff⟩:=Option.isSome_iff_exists.1 hf;have hcat:(f.s++f.l).size+t.size<=9223372036854775807:=by
   have:=xe (l7 hff).1;have h3:=HB.xd;rw[mc];omega
  obtain⟨HE,HF⟩:=eN (show({tick S with L:=ja (tick S).L ⟨n,f.s,f.l++t⟩,used:=(tick S).used+(t.size:Nat)}:Dk)=Fe S n t by unfold Fe;rw[hff];rfl) hff;rotate_left
  all_goals
   go_enter func134,ntmps134
   go_wp2_with (go_at_call 169;rw[<-HW2.out];refine(jV hD2 HM).mono ?_;rw[HT.out];rintro e w3 ⟨rfl,hb3⟩;have X3:w3.cell? ⟨w.heap.size,0,E⟩=G (ptr p):=(hb3.cell (eU X2)).trans X2;have Z3:w3.cell? ⟨w.heap.size+1+1,0,E⟩=G (.string t):=(hb3.cell (eU Z2)).trans Z2)
  rotate_left;have Y3:w3.cell? ⟨w.heap.size+1,0,E⟩=G (.string n):=(hb3.cell (eU Y2)).trans Y2;rotate_left
  all_goals
   have D3:=H (hD2.fp hb3);obtain⟨-,-,c1,-,c3,-⟩:=D3.cells
   go_quiet (fail)
   have D4:=H (D3.drewN nq)
   go_wp2_with fail
  have OP:Calls prog 170 #[ptr p,I J 52,.func (.func 210) #[] #[ptr w.heap.size,ptr (w.heap.size+1),ptr (w.heap.size+1+1)]] _ _:=pK D4 HB 52 (S':=Fe S n t) (λ_ he _=>absurd he dc) (λ_=>eG);rotate_left;have OP:Calls prog 170 #[ptr p,I J 0,.func (.func 210) #[] #[ptr w.heap.size,ptr (w.heap.size+1),ptr (w.heap.size+1+1)]] _ _:=
   pK D4 HB 0 (S':=Fe S n t) (λ_ _ _ w1 D1 k=>by
    rw[<-HE.out];exact Fu D1 hlen HM HF (vV (w:=w3.drewN nq) (x:=w.heap.size) X3 k om om) (vV (w:=w3.drewN nq) (x:=w.heap.size+1) Y3 k om om) (vV (w:=w3.drewN nq) (x:=w.heap.size+1+1) Z3 k om om) h5 (by show S.used+_<=_;omega) hcat) (λ_=>eG)
  rotate_left
  all_goals
   exact qU
end
def B9 (S:Dk)(n:ay):Fl:=(gG S.L n).getD ⟨n,lE,lE⟩
def LJ (S:Dk)(n:ay):Dk:={tick S with L:=ja S.L ⟨n,(B9 S n).s++(B9 S n).l,lE⟩}
def mg (S:Dk)(n:ay):Dk×Nat:=zK S (vN S.L n) (LJ S n)
def Xp (S:Dk)(n:ay):Dk:={tick S with L:=wo S.L n,used:=S.used - ((px (gG S.L n)).size:Nat)}
def zc (S:Dk)(n:ay):Dk×Nat:=zK S (vN S.L n) (Xp S n)
theorem tI {L}{n}(h:vN L n=0):∃ f,gG L n=G f:=by
 unfold vN at h;cases hl:gG L n with
 | none=>rw[hl] at h;simp at h
 | some f=>exact⟨f,D⟩
theorem PM {L}{n}:(px (gG L n)).size<=mV L:=by
 cases hl:gG L n with
 | none=>exact aD _
 | some f=>
  have:=xe (l7 hl).1;show(f.s++f.l).size<=_;rw[mc];exact this
theorem uy(h:Below w.drew.heap.size w.drew w'):Below w.heap.size w w':=⟨h.os,h.tape,h.output,h.size,h.block⟩
section
variable {w:World}{p b:Nat}{S:Dk}
theorem GJ:(∀ (h:eF w p b S) (B:Bd S) {n:ay} (hn:n.size<=maxLen),Calls prog 136 #[ptr p,.string n] w (jE (mg S n) p b w))/\
 (∀ (h:eF w p b S) (B:Bd S) {n:ay} (hn:n.size<=maxLen),Calls prog 157 #[ptr p,.string n] w (jE (zc S n) p b w)):=by
 refine⟨?_,?_⟩
 all_goals intro h B n hn
 all_goals
  have hp:=h.fo.lt;have hb:=h.own.lt;have HM:=H hn;obtain⟨w2,hw2,HW2⟩:=nh ((w.alloc (.cells #[ptr p] 75)).alloc (.cells #[.string n] 9));have hD2:Hid (eF w2 p b S):=H (by rw[hw2];exact(h.alloc _).alloc _);have K2:Kp p b w w2:=by rw[hw2];exact(Kp.alloc _ _).trans (Kp.alloc _ _)
  have X2:w2.cell? ⟨w.heap.size,0,E⟩=G (ptr p):=by rw[hw2];exact wR _ _ _ _ _
  have Y2:w2.cell? ⟨w.heap.size+1,0,E⟩=G (.string n):=by rw[hw2];exact wQ _ _ _ _ _
  have lX:=eU X2;have lY:=eU Y2;simp only at lX lY;have hlen:=ml B.len;have HB:=H B;clear h hn hw2
 have OP:∀ w3,Below w2.heap.size w2 w3->Calls prog 170 #[ptr p,I J (vN S.L n:Nat),.func (.func 212) #[] #[ptr w.heap.size,ptr (w.heap.size+1)]] w3 (jE (mg S n) p b w3):=λw3 hb3=>
  pK (hD2.fp hb3) HB (vN S.L n) (S':=LJ S n) (λ_ h0 _ w1 D1 k=>by
   obtain⟨f,hf⟩:=tI h0;have hE:({tick S with L:=ja (tick S).L ⟨n,f.s++f.l,lE⟩}:Dk)=LJ S n:=by unfold LJ B9;rw[hf];rfl
   rw[<-hE];exact JT D1 hlen HM hf (vV (x:=w.heap.size) ((hb3.cell (by exact lX)).trans X2) k om om) (vV (x:=w.heap.size+1) ((hb3.cell (by exact lY)).trans Y2) k om om)) (λ_=>eG)
 rotate_left;have OP:∀ w3,Below w2.heap.size w2 w3->Calls prog 170 #[ptr p,I J (vN S.L n:Nat),.func (.func 225) #[] #[ptr w.heap.size,ptr (w.heap.size+1)]] w3 (jE (zc S n) p b w3):=λw3 hb3=>
  pK (hD2.fp hb3) HB (vN S.L n) (S':=Xp S n) (λ_ h0 _ w1 D1 k=>by
   exact Ff D1 HM (vV (x:=w.heap.size) ((hb3.cell (by exact lX)).trans X2) k om om) (vV (x:=w.heap.size+1) ((hb3.cell (by exact lY)).trans Y2) k om om) abv (by show S.used<=_;have:=HB.used;have:=HB.xd;omega)) (λ_=>eG)
 rotate_left
 all_goals
  have HO:=H OP
 focus
  go_enter func136,ntmps136
 rotate_left
 focus
  go_enter func157,ntmps157
 rotate_left
 all_goals
  go_wp2_with fail
  rw[<-HW2.out]
  go_region_held3 (λw'=>w'.cell? ⟨w.heap.size,0,E⟩=G (ptr p)/\w'.cell? ⟨w.heap.size+1,0,E⟩=G (.string n))
   (first | exact⟨X2,Y2⟩ | exact⟨(hb3.cell lX).trans X2,(hb3.cell lY).trans Y2⟩ | exact⟨(K4.cell (by exact bK lX hb3.size) eC eC).trans ((hb3.cell lX).trans X2),(K4.cell (by exact bK lY hb3.size) eC eC).trans ((hb3.cell lY).trans Y2)⟩)
   (first | (go_at_call 169;refine qx (jV hD2.drew HM) λw3 hb3=>?_) | (go_at_call 170;refine(HO _ (uy hb3)).mono ?_;rintro e w4 ⟨rfl,D4,K4⟩))
  all_goals
   have HD:=H D4
   go_wp2
   go_ret;exact⟨D,HD,(K2.comp (Kp.jR (uy hb3))).comp K4⟩
end
def FP (S:Dk)(a c:ay):Nat:=if Av c=Q then vN S.L a else 51
def Qs (S:Dk)(a c:ay):Dk:=if Lv a c=Q then tick S else{tick S with L:=wo (ja S.L ⟨c,(B9 S a).s,(B9 S a).l⟩) a,used:=S.used - ((px (gG S.L c)).size:Nat)}
def Ag (S:Dk)(a c:ay):Dk×Nat:=zK S (FP S a c) (Qs S a c)
section
variable {w:World}{p b:Nat}{S:Dk}
theorem Gu (h:eF w p b S)(B:Bd S){c:ay}(ha:a.size<=maxLen)(hc:c.size<=maxLen):
 Calls prog 216 #[ptr p,.string a,.string c] w (jE (Ag S a c) p b w):=by
 have hp:=h.fo.lt;have hb:=h.own.lt;have hs:c.size<=9223372036854775807:=by unfold maxLen at hc;omega
 obtain⟨HMa,HMc⟩:=eN ha hc;obtain⟨w2,hw2,HW2⟩:=nh (((w.alloc (.cells #[ptr p] 75)).alloc (.cells #[.string a] 9)).alloc (.cells #[.string c] 9));have hD2:Hid (eF w2 p b S):=H (by rw[hw2];exact((h.alloc _).alloc _).alloc _);have K2:Kp p b w w2:=by rw[hw2];exact((Kp.alloc _ _).trans (Kp.alloc _ _)).trans (Kp.alloc _ _)
 have X2:w2.cell? ⟨w.heap.size,0,E⟩=G (ptr p):=by rw[hw2];exact QP _ _ _ _ _ _ _
 have Y2:w2.cell? ⟨w.heap.size+1,0,E⟩=G (.string a):=by rw[hw2];exact QO _ _ _ _ _ _ _
 have Z2:w2.cell? ⟨w.heap.size+1+1,0,E⟩=G (.string c):=by rw[hw2];exact QN _ _ _ _ _ _ _
 have hlen:=ml B.len;have HB:=H B;clear h ha hc hw2;have OP:∀ (w3:World) (e:Nat),(e=0->vN S.L a=0)->Below w2.heap.size w2 w3->Calls prog 170 #[ptr p,I J (e:Nat),.func (.func 274) #[] #[ptr (w.heap.size+1),ptr (w.heap.size+1+1),ptr w.heap.size]] w3 (jE (zK S e (Qs S a c)) p b w3):=λw3 e he hb3=>
  pK (hD2.fp hb3) HB e (S':=Qs S a c) (λ_ h0 _ w1 D1 k=>by
   obtain⟨f,hf⟩:=tI (he h0);have X1:=vV (x:=w.heap.size) ((hb3.cell (eU X2)).trans X2) k om om;have Y1:=vV (x:=w.heap.size+1) ((hb3.cell (eU Y2)).trans Y2) k om om;have Z1:=vV (x:=w.heap.size+1+1) ((hb3.cell (eU Z2)).trans Z2) k om om;unfold Qs;by_cases heq:Lv a c=Q
   ·rw[aA heq];obtain rfl:=pR.1 heq;exact Be D1 Y1 Z1
   ·rw[az heq];have hne:a≠c:=λh=>heq (pR.2 h);have hE:B9 S a=f:=by unfold B9;rw[hf];rfl
    rw[hE];exact Dq D1 hlen HMa HMc hne hf Y1 Z1 X1 abv (by show S.used<=_;have:=HB.used;have:=HB.xd;omega)) (λ_=>eG)
 have HO:=H OP;cases hr:Av c with
 | false=>
  obtain⟨HW,HR⟩:=eN (show FP S a c=51 by unfold FP;rw[az (by rw[hr];decide)]) hr;clear hr
  go_enter func216,ntmps216
  go_wp2_with (first | (go_at_call 169;rw[<-HW2.out];refine qx (jV hD2 HMa) λw3 hb3=>?_;have X3:w3.cell? ⟨w.heap.size,0,E⟩=G (ptr p):=(hb3.cell (eU X2)).trans X2;have Y3:w3.cell? ⟨w.heap.size+1,0,E⟩=G (.string a):=(hb3.cell (eU Y2)).trans Y2;have Z3:w3.cell? ⟨w.heap.size+1+1,0,E⟩=G (.string c):=(hb3.cell (eU Z2)).trans Z2) | (go_at_call 168;refine(lM c _ hs).mono ?_;rw[HR.out];rintro e w4 ⟨rfl,rfl⟩))
  refine(HO _ 51 (λh=>absurd h dc) hb3).mono ?_;exact qZ
 | true=>
  obtain⟨HW,HR⟩:=eN (show FP S a c=vN S.L a by unfold FP;rw[aA hr]) hr;clear hr
  go_enter func216,ntmps216
  go_wp2_with (first | (go_at_call 169;rw[<-HW2.out];refine qx (jV hD2 HMa) λw3 hb3=>?_;have X3:w3.cell? ⟨w.heap.size,0,E⟩=G (ptr p):=(hb3.cell (eU X2)).trans X2;have Y3:w3.cell? ⟨w.heap.size+1,0,E⟩=G (.string a):=(hb3.cell (eU Y2)).trans Y2;have Z3:w3.cell? ⟨w.heap.size+1+1,0,E⟩=G (.string c):=(hb3.cell (eU Z2)).trans Z2) | (go_at_call 168;refine(lM c _ hs).mono ?_;rw[HR.out];rintro e w4 ⟨rfl,rfl⟩))
  refine(HO _ (vN S.L a) (λh=>h) hb3).mono ?_;exact qZ
end
def Bf (S:Dk)(n:ay)(a:Int):ay×Nat:=
 if S.down then(lE,50) else match gG S.L n with
  | none=>(lE,51)
  | some f=>if a<0∨((f.s++f.l).size:Int)<a then(lE,1) else((f.s++f.l).extract a.toNat (min (f.s++f.l).size (a.toNat+64)),0)
def He (S:Dk)(n:ay)(a:Int):Dk:=if(Bf S n a).2=0 then{S with reads:=S.reads+1} else S
def rZ (S:Dk)(n:ay)(a:Int)(p b:Nat)(w:World)(e:Ending)(w':World):Prop:=
 e= .returned (.tuple #[.string (Bf S n a).1,I J ((Bf S n a).2:Nat)])/\eF w' p b (He S n a)/\Kp p b w w'
theorem tT {S}{n}{a:Int}{p:Nat}{B:ay}(h:Bf S n a=(B,c)){e:Ending}(he:e= .returned (.tuple #[.string B,I J (c:Nat)]))(hD:eF w' p b (if c=0 then{S with reads:=S.reads+1} else S))(hk:Kp p b w w'):rZ S n a p b w e w':=by
 refine⟨by rw[h];exact he,?_,hk⟩;unfold He;rw[h];exact hD
section
variable {w:World}{p b:Nat}{S:Dk}
theorem vF (h:eF w p b S)(B:Bd S){n:ay}(hn:n.size<=maxLen)(a:Int)(hw0: -9223372036854775808<=a)(hw1:a<=9223372036854775807):
 Calls prog 295 #[ptr p,.string n,I J a] w (rZ S n a p b w):=by
 obtain⟨lt,c0,c1,c2,c3,c4,c5,c6⟩:=h.cells;obtain⟨hD,HM⟩:=eN h hn;have hfl:=sZ;have r0:=B.th;have r1:=B.xK;have HB:=H B;cases hd:S.down with
 | true=>
  have HR:=H (show Bf S n a=(lE,50) by unfold Bf;rw[hd];rfl);rw[hd] at c6;clear h hn hd
  go_enter func295,ntmps295
  go_wp2_with fail
  go_ret2
  exact tT HR D (by rw[az dc];exact hD) (Kp.refl _ _ _)
 | false=>
  rw[hd] at c6;cases hl:gG S.L n with
  | none=>
   obtain⟨HR,HT⟩:=eN (show Bf S n a=(lE,51) by unfold Bf;rw[hd,hl];rfl) (show vN S.L n=51 from xo (by rw[hl];rfl));clear h hn hd hl
   go_enter func295,ntmps295
   go_wp2_with (go_at_call 169;refine(jV hD HM).mono ?_;rw[HT.out];rintro e w3 ⟨rfl,hb3⟩)
   go_ret2
   exact tT HR D (by rw[az dc];exact hD.fp hb3) (Kp.jR hb3)
  | some f=>
   have HT:=H (show vN S.L n=0 from xm (by rw[hl];rfl));have hsz:(f.s++f.l).size<=1073741824:=by
    have:=xe (l7 hl).1;have h3:=HB.xd;rw[mc];omega
   by_cases hbad:a<0∨((f.s++f.l).size:Int)<a
   ·obtain⟨HR,HL⟩:=eN (show Bf S n a=(lE,1) by unfold Bf;rw[hd,hl];simp only;rw[az dc,aA hbad]) hl;clear h hn hd hl;obtain⟨X,hX,HX⟩:=nh (f.s++f.l);rw[<-hX] at hbad hsz;clear hX;by_cases hneg:a<0;clear hbad;rotate_left;have hbig:(X.size:Int)<a:=om;have hpos:0<=a:=om;clear hbad hneg;rotate_left
    all_goals
     go_enter func295,ntmps295
     go_wp2_with (first | (go_at_call 169;refine(jV hD HM).mono ?_;rw[HT.out];rintro e w3 ⟨rfl,hb3⟩;have d0:w3.cell? ⟨p,0,E⟩=G (.map (G b)):=(hb3.cell (by exact lt)).trans c0) | (at_lookup;refine lC _ D _ _ D b S.L n D (hD.fp hb3).own D HM ?_;rw[HL.out];unfold yX px FH;simp only[];rw[<-HX.out]))
     go_ret2
     exact tT HR D (by rw[az dc];exact hD.fp hb3) (Kp.jR hb3)
   ·obtain⟨k,rfl⟩:∃ k:Nat,a=k:=⟨a.toNat,om⟩;obtain⟨X,hX,HX⟩:=nh (f.s++f.l);have hk:k<=X.size:=by rw[hX];omega
    obtain⟨HR,HL⟩:=eN (show Bf S n k=(X.extract k (min X.size (k+64)),0) by unfold Bf;rw[hd,hl];simp only;rw[az dc,az hbad,hX];rfl) hl;rw[<-hX] at hsz;have hin:(0:Int)<=(k:Int):=om;have hin2:(k:Int)<=(X.size:Int):=om;clear h hn hd hl hX hbad;by_cases hmn:X.size<=k+64;have HZ:=H (show min X.size (k+64)=X.size by omega);rotate_left;have HZ:=H (show min X.size (k+64)=k+64 by omega);have hmn2:k+64<X.size:=om;have hin3:(k:Int)+64<=(X.size:Int):=om;clear hmn;rotate_left
    all_goals
     go_enter func295,ntmps295
     go_wp2_with (first | (go_at_call 169;refine(jV hD HM).mono ?_;rw[HT.out];rintro e w3 ⟨rfl,hb3⟩;have d0:w3.cell? ⟨p,0,E⟩=G (.map (G b)):=(hb3.cell (by exact lt)).trans c0;have d5:w3.cell? ⟨p,5,E⟩=G (I J S.reads):=(hb3.cell (by exact lt)).trans c5;have f5:=(hD.fp hb3).fo.frozen 5) | (at_lookup;refine lC _ D _ _ D b S.L n D (hD.fp hb3).own D HM ?_;rw[HL.out];unfold yX px FH;simp only[];rw[<-HX.out]))
     go_ret2
    ·exact tT HR (by rw[HZ.out];first | rfl | (have e:(min (X.size:Int) ((k:Int)+64)).toNat=X.size:=om;show Ending.returned (Value.tuple #[Value.string (X.extract k (min (X.size:Int) ((k:Int)+64)).toNat),Value.int IntKind.i64 0])=_;rw[e];rfl)) (by rw[aA D];exact(hD.fp hb3).J4 _) ((Kp.jR hb3).trans (Kp.tP _ _ _))
    ·exact tT HR (by rw[HZ.out];first | rfl | (have e:(min (X.size:Int) ((k:Int)+64)).toNat=k+64:=om;show Ending.returned (Value.tuple #[Value.string (X.extract k (min (X.size:Int) ((k:Int)+64)).toNat),Value.int IntKind.i64 0])=_;rw[e];rfl)) (by rw[aA D];exact(hD.fp hb3).J4 _) ((Kp.jR hb3).trans (Kp.tP _ _ _))
end
end Ds
section
open Go.RowKit Go.Maps Go.Sort Go.Shelf
theorem J0 (m:Nat):AnyZ.SortsIn prog Tryz.sorted93_ren Fence.wide m:=
 ⟨λfo off cap ss W hH hblk hsz=>callsIn_wide.2 (AnyM.slices_Sort_string Tryz.sort149 fo off cap ss W hH hblk hsz),
  λp cap W=>callsIn_wide.2 (AnyM.slices_Sort_string_none Tryz.sort149 p cap W)⟩
theorem OX (mb:Option Nat)(W):CallsIn Fence.wide 5 prog 94 #[.map mb] W λe w'=>e= .returned (.func (.func 150) #[] #[.pointer (G ⟨W.heap.size,0,E⟩)])/\w'=W.alloc (.cells #[.map mb] 107):=
 AnyZ.keys_in Tryz.keys94 Fence.wide 5 trivial D mb W
theorem Gi {ah:Type}(b nn:Nat)(D0)(R:Value->Option (DataW ah×List MemPlace))(w:World)(hown:w.ownsMap prog 9 R b nn D0)(hmax:Maps.size D0<=maxLen)(hbytes:Maps.size D0*16<=140737488355328):
 CallsIn Fence.wide 5 prog 93 #[.func (.func 150) #[] #[.pointer (G ⟨w.heap.size,0,E⟩)]] (w.alloc (.cells #[.map (G b)] 107)) λe w'=>∃ (v:Value) (ss:List (List UInt8)),e= .returned v/\ss.Perm (strKeys D0)/\
  w'.ownsRow (w.alloc (.cells #[.map (G b)] 107)).heap.size 9 1 v ss.length ((ss.mergeSort (λx y=>decide (x<=y))).map encStr)/\(v= Z E 0 0↔ss=[])/\Below (w.alloc (.cells #[.map (G b)] 107)).heap.size (w.alloc (.cells #[.map (G b)] 107)) w':=by
 have hbl:=hown.lt;have hseq:SeqGives Fence.wide 2 prog 150 #[.pointer (G ⟨w.heap.size,0,E⟩)] encStr (λss=>ss.Perm (strKeys D0)) (Maps.size D0) (w.alloc (.cells #[.map (G b)] 107)):=
  AnyZ.keys_gives (ρ:=Tryz.keys94_ren) {Tryz.keys94 with} Fence.wide _ trivial D om w.heap.size b nn D0 _ sm sm (by
   obtain⟨es,clock,hb,Ft,hs,hD⟩:=hown;exact⟨es,clock,(Below.heap_alloc _ _ b hbl).trans hb,Ft,hs,hD⟩)
 exact AnyZ.sorted_in Tryz.sorted93 Fence.wide 5 trivial trivial trivial trivial D om (J0 _) (enters_of func149 kr D) 150 #[.pointer (G ⟨w.heap.size,0,E⟩)] trivial (enters_of func150 kr D) _ _ hmax hbytes _ hseq
end
namespace Ds
open Go.RowKit Go.Maps DkM
def Ct (w:World)(base:Nat)(v:Value)(L:List Fl):Prop:=
 ∃ A cap,v= Z A L.length cap/\(0<L.length->∃ g,A=G ⟨g,0,E⟩/\base<=g/\g<w.heap.size/\∀ k (h:k<L.length),w.cell? ⟨g,k,E⟩=G (.string L[k].n))
def Mi (L:List Fl)(w:World)(e:Ending)(w':World):Prop:=∃ v,e= .returned v/\Ct w' w.heap.size v L/\Below w.heap.size w w'
section
variable {w:World}{p b:Nat}{S:Dk}
theorem OH{base:Nat}{v}{L}{ss:List (List UInt8)}(hr:jP L)(hp:ss.Perm (strKeys (CZ L)))(ho:w'.ownsRow base 9 1 v ss.length ((ss.mergeSort (λx y=>decide (x<=y))).map encStr))(hb:w.heap.size<=base):Ct w' w.heap.size v L:=by
 rw[Pb] at hp;have hs:=Dd hr hp;have hlen:ss.length=L.length:=by simpa using hp.length_eq
 unfold leB at hs;rw[hs,dK,hlen] at ho;have ho':=ho;rcases ho.2 with⟨rfl,h0⟩ | ⟨g,cap,cur,rfl,hg,hh,h1,h2,h3,h4⟩
 ·refine⟨E,0,?_,λh=>?_⟩
  ·rw[h0]
  ·omega
 ·refine⟨_,_,D,λh=>⟨g,D,om,?_,λk hk=>?_⟩⟩
  ·exact(aa2.1 hh).1
  ·have:=ho'.cells (g:=g) D k (.string L[k].n) (by simp[hk]);have e:(⟨g,0,E⟩:Addr).add k=⟨g,k,E⟩:=by
    unfold Addr.add
    split
    ·simp_all
    ·simp
   rw[e] at this;exact this
theorem vj (h:eF w p b S)(B:Bd S):Calls prog 60 #[ptr p] w (Mi S.L w):=by
 obtain⟨lt,c0,c1,c2,c3,c4,c5,c6⟩:=h.cells;have hlen:=B.len;have HK:=λW=>callsIn_wide.1 (OX (G b) W);have HS:=callsIn_wide.1 (Gi b _ (CZ S.L) Ey w h.own (by rw[xz];unfold maxLen;omega) (by rw[xz];omega));have HR:=H B.oB;replace HK:=H HK;replace HS:=H HS
 go_enter func60,ntmps60
 go_wp2_with (first | (go_at_call 94;refine QS (HK _) ?_) | (go_at_call 93;refine HS.mono ?_;rintro e w1 ⟨v,ss,rfl,hp,ho,hv,hb⟩))
 go_ret;exact⟨v,D,OH HR hp ho sm,((aa4 _ _).alloc (aB _) _).trans (hb.mono sm)⟩
end
def Fm (n:Nat)(x:Int):Nat:=min x.toNat n
def vS (f:Fl)(x:Int):Fl:=⟨f.n,f.s++f.l.extract 0 (Fm f.l.size x),lE⟩
def Aj:List Fl->List Int->List Fl
 | [],_=>[]
 | f::r,ks=>if f.l.size=0 then f::Aj r ks else vS f (ks.headD 0)::Aj r ks.tail
theorem Ul (L)(ks:List Int):(Aj L ks).length=L.length:=by
 induction L generalizing ks with
 | nil=>rfl
 | cons f r ih=>
  unfold Aj
  split<;>simp[ih]
def ur (S:Dk)(ks:List Int):Dk:={S with L:=Aj S.L ks,used:=(mV (Aj S.L ks):Nat),down:=z,jL:=-1}
theorem Qb (x:ay)(m:Nat)(h:m<=x.size):(x.extract 0 m).size=m:=by rw[Qc];omega
theorem Fi (f)(x:Int):(vS f x).s.size+(vS f x).l.size=f.s.size+Fm f.l.size x:=by
 unfold vS;simp only[mc];rw[Qb _ _ (by unfold Fm;omega)];rfl
theorem AG (A B:List Fl):mV (A++B)=mV A+mV B:=by
 induction A with
 | nil=>simp[mV]
 | cons f r ih=>simp only[bq,mV,ih];omega
theorem Ui (a b:ay)(m:Nat):(a++b).extract 0 (a.size+m)=a++b.extract 0 m:=by
 refine lv ?_;rw[E8,yH,yH,E8];simp only[cW];rw[tJ,List.take_append,bz om];simp
theorem Jh {f:Fl}{x:Int}(hm:m=Fm f.l.size x):(Value.agg #[.string ((f.s++f.l).extract 0 (f.s.size+m)),I J ((f.s.size:Nat)+(m:Nat))])=mL (vS f x):=by
 have hml:m<=f.l.size:=by rw[hm];unfold Fm;omega
 unfold mL vS;simp only[Cn,mc];rw[<-hm,Qb _ _ hml,Ui];rfl
theorem P6 {f:Fl}:(Value.agg #[.string ((f.s++f.l).extract 0 f.s.size),I J (f.s.size:Nat)])=mL (vS f 0):=
 Jh (m:=0) (by unfold Fm;simp)
def kF (w:World)(kb:Nat)(ks:List Int)(v:Value):Prop:=
 ∃ A cap,v= Z A ks.length cap/\ks.length<=cap/\(0<ks.length->∃ ko,A=G ⟨kb,ko,E⟩/\∀ k (h:k<ks.length),w.cell? ⟨kb,ko+k,E⟩=G (I J ks[k]))
theorem kF.none_ (w)(kb:Nat)(A)(cap:Nat):kF w kb [] (Z A 0 cap):=⟨A,cap,D,aD _,λh=>absurd h sm⟩
theorem kF.keep{ks:List Int}{v}(h:kF w kb ks v)(hk:0<ks.length->w'.heap[kb]?=w.heap[kb]?):kF w' kb ks v:=by
 obtain⟨A,cap,h1,h2,h3⟩:=h;refine⟨A,cap,h1,h2,λhl=>?_⟩;obtain⟨ko,e,hc⟩:=h3 hl;exact⟨ko,e,λk hk'=>(ab2 (w:=w) (hk hl)).trans (hc k hk')⟩
theorem kF.tail{ko:Nat}{x:Int}{ks:List Int}(hl:(x::ks).length<=cap)(hc:∀ k (h:k<(x::ks).length),w.cell? ⟨kb,ko+k,E⟩=G (I J (x::ks)[k]))(A:Option Addr)(hA:1<cap->A=G ⟨kb,ko+1,E⟩):
 kF w kb ks (Z A ks.length (cap - 1)):=by
 refine⟨A,cap - 1,D,by simp at hl;omega,λh=>⟨ko+1,hA (by simp at hl;omega),λk hk=>?_⟩⟩;have:=hc (k+1) eC;rw[show ko+(k+1)=ko+1+k by omega] at this;simpa using this
structure sL (L0:List Fl)(ks0:List Int)(j:Nat)(A:List Fl)(ks:List Int):Prop where
 eq:Aj L0 ks0=A++Aj (L0.drop j) ks
 len:A.length=j
 oB:jP (A++L0.drop j)
 less:mV (A++L0.drop j)<=mV L0
theorem sL.start {L0}{ks0:List Int}(h:jP L0):sL L0 ks0 0 [] ks0:=⟨D,D,h,aB _⟩
theorem sL.skip {L0}{ks0:List Int}{A}{ks:List Int}(h:sL L0 ks0 j A ks)(hj:j<L0.length)(h0:L0[j].l.size=0):sL L0 ks0 (j+1) (A++[L0[j]]) ks:=by
 obtain⟨h1,h2,h3,h4⟩:=h;rw[aR hj] at h1 h3 h4;refine⟨?_,by simp[h2],by simpa using h3,by simpa using h4⟩;rw[h1];have e:Aj (L0[j]::L0.drop (j+1)) ks=L0[j]::Aj (L0.drop (j+1)) ks:=by
  show(if L0[j].l.size=0 then _ else _)=_;rw[aA h0]
 rw[e];simp
theorem sL.next {L0}{ks0:List Int}{A}{ks:List Int}(h:sL L0 ks0 j A ks)(hj:j<L0.length)(h0:L0[j].l.size≠0):sL L0 ks0 (j+1) (A++[vS L0[j] (ks.headD 0)]) ks.tail/\ja (A++L0.drop j) (vS L0[j] (ks.headD 0))=(A++[vS L0[j] (ks.headD 0)])++L0.drop (j+1)/\
 mV ((A++[vS L0[j] (ks.headD 0)])++L0.drop (j+1))+L0[j].l.size=mV (A++L0.drop j)+Fm L0[j].l.size (ks.headD 0):=by
 obtain⟨h1,h2,h3,h4⟩:=h;rw[aR hj] at h1 h3 h4 ⊢;have hp:=Wk (g:=vS L0[j] (ks.headD 0)) h3 D;have hR:=jP.put h3 (vS L0[j] (ks.headD 0));rw[hp] at hR;have hz:=Fi L0[j] (ks.headD 0);have hm:Fm L0[j].l.size (ks.headD 0)<=L0[j].l.size:=by unfold Fm;omega
 have hu:mV ((A++[vS L0[j] (ks.headD 0)])++L0.drop (j+1))+L0[j].l.size=mV (A++L0[j]::L0.drop (j+1))+Fm L0[j].l.size (ks.headD 0):=by
  rw[AG,AG,AG];simp only[mV];omega
 refine⟨⟨?_,by simp[h2],by simpa using hR,om⟩,by rw[hp];simp,hu⟩;rw[h1];have e:Aj (L0[j]::L0.drop (j+1)) ks=vS L0[j] (ks.headD 0)::Aj (L0.drop (j+1)) ks.tail:=by
  show(if L0[j].l.size=0 then _ else _)=_;rw[az h0]
 rw[e];simp
theorem sL.look {L0}{ks0:List Int}{A}{ks:List Int}(h:sL L0 ks0 j A ks)(hj:j<L0.length):gG (A++L0.drop j) L0[j].n=G L0[j]:=by
 have h3:=h.oB;rw[aR hj] at h3 ⊢;exact wD h3 (List.mem_append_right _ List.mem_cons_self)
theorem sL.done {L0}{ks0:List Int}{A}{ks:List Int}(h:sL L0 ks0 j A ks)(hj:j=L0.length):A++L0.drop j=Aj L0 ks0:=by
 rw[h.eq,hj,bX];rfl
theorem sL.YR {L0}{ks0:List Int}{A}{ks:List Int}(h:sL L0 ks0 j A ks)(hj:j<=L0.length):(A++L0.drop j).length=L0.length:=by
 rw[aU,h.len,bm];omega
