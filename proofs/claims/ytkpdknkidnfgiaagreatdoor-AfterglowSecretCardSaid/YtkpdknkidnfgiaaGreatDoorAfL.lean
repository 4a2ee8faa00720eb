/- What the law AfterglowSecret returns, for every input that is read. -/
import Derived.Test.YtkpdknkidnfgiaaGreatDoorRows
import Derived.Test.YtkpdknkidnfgiaaGreatDoorJW
import Derived.ProofKit
import Derived.OpenShut
import Derived.ShutString
import Derived.SizedLaws
import Derived.Deep.Slices
import Derived.Deep.DeepHandedRow
import Derived.Lay
import Derived.Stop.LaidErr
import Derived.Shelf.Vars
import Derived.SevenTiedAt
namespace Go.Proofs.YtkpdknkidnfgiaaGreatDoor.afterglowSecret
open Go.ChangeShapes Go.WideShapes Go.ChangeAt Go.RowKit
open Tp
set_option linter.unusedVariables false
set_option maxRecDepth 100000
set_option maxHeartbeats 4000000
theorem own:ownKnob Tryz.prog.godebug=none:=by kernel_rfl
theorem laidOut:laidOutB Tryz.prog=true:=by kernel_rfl
theorem cells_ev:Tryz.prog.cellsOf 26 =6:=by kernel_rfl
theorem str_small {z:ByteArray}(h:z.size≤maxLen):z.size≤9223372036854775807:=by
 unfold maxLen at h
 omega
theorem ev_cell {H:Type}{enc:TypeId×Value→H}{W:World}{base:Nat}{sp:Nat→Bool}{held:Bool}{a:Addr}{n:Nat}{cs:List Value}{d:DataW H}{ps:List MemPlace}
 (h1:W.cells? base a (Tryz.prog.cellsOf 26)=some cs) (h2:DataW.trod enc Tryz.prog W base sp held n 26 cs=some (d,ps)):
 ∃ e:Ev,(e.user.size≤9223372036854775807∧e.other.size≤9223372036854775807)∧W.cell? a=some (.int .i64 e.kind)∧W.cell? (a.add 1)=some (.int .i64 e.time)∧W.cell? (a.add 2)=some (.string e.user)∧W.cell? (a.add 3)=some (.string e.other)∧W.cell? (a.add 4)=some (.int .i64 e.n)∧W.cell? (a.add 5)=some (.int .i64 e.st):=by
 rw[cells_ev] at h1
 obtain⟨_,hlen,hcell⟩:=World.cells?_some h1
 obtain⟨xs,k,hk,hxy,_,hxl,hf⟩:=DataW.trod_struct Tryz.underlying26 h2
 match xs,hxl,cs,hlen with
 | [y0,y1,y2,y3,y4,y5],_,[v0,v1,v2,v3,v4,v5],_=>
  have q0:DataW.trod enc Tryz.prog W base sp held k 3 [v0]=some y0:=hf 0 _ rfl
  have q1:DataW.trod enc Tryz.prog W base sp held k 3 [v1]=some y1:=hf 1 _ rfl
  have q2:DataW.trod enc Tryz.prog W base sp held k 9 [v2]=some y2:=hf 2 _ rfl
  have q3:DataW.trod enc Tryz.prog W base sp held k 9 [v3]=some y3:=hf 3 _ rfl
  have q4:DataW.trod enc Tryz.prog W base sp held k 3 [v4]=some y4:=hf 4 _ rfl
  have q5:DataW.trod enc Tryz.prog W base sp held k 3 [v5]=some y5:=hf 5 _ rfl
  have e0:=hcell 0 (by omega)
  have e1:=hcell 1 (by omega)
  have e2:=hcell 2 (by omega)
  have e3:=hcell 3 (by omega)
  have e4:=hcell 4 (by omega)
  have e5:=hcell 5 (by omega)
  obtain⟨z0,hz0,hd0,w0⟩:=DataW.trod_int Tryz.underlying3 q0
  obtain⟨z1,hz1,hd1,w1⟩:=DataW.trod_int Tryz.underlying3 q1
  obtain⟨z2,hz2,hd2,w2⟩:=DataW.trod_string Tryz.underlying9 q2
  obtain⟨z3,hz3,hd3,w3⟩:=DataW.trod_string Tryz.underlying9 q3
  obtain⟨z4,hz4,hd4,w4⟩:=DataW.trod_int Tryz.underlying3 q4
  obtain⟨z5,hz5,hd5,w5⟩:=DataW.trod_int Tryz.underlying3 q5
  simp only[List.cons.injEq,and_true] at hz0 hz1 hz2 hz3 hz4 hz5
  subst hz0 hz1 hz2 hz3 hz4 hz5
  refine⟨⟨z0,z1,z2,z3,z4,z5⟩,⟨str_small w2,str_small w3⟩,?_,?_,?_,?_,?_,?_⟩
  ·simpa[Addr.add] using e0
  ·simpa using e1
  ·simpa using e2
  ·simpa using e3
  ·simpa using e4
  ·simpa using e5
theorem read_evs {H:Type}{enc:TypeId×Value→H}{W:World}{base:Nat}{v:Value}{d:DataW H}{ps:List MemPlace}(hok:Value.okWide Tryz.prog W .any base 22 v)
 (h:DataW.Trod enc Tryz.prog W 0 (fun _=>true) true 22 v d ps):∃ L:List Ev,uD W v L∧∀ e∈L,e.user.size≤9223372036854775807∧e.other.size≤9223372036854775807:=by
 obtain⟨a0,len,cap,rfl⟩:=okWide_slice Tryz.underlying22 hok
 obtain⟨fuel,hf⟩:=h
 rcases Deep.open_slice Tryz.underlying22 hf with⟨hcs,hx⟩ | ⟨a,len',cap',m,n,D,Pl,hcs,_,hl,hm,hmm,hx,hel⟩
 ·simp[Value.cells] at hcs
  obtain⟨rfl,rfl,rfl⟩:=hcs
  exact⟨[],⟨none,0,rfl,fun k hk=>absurd hk (by simp)⟩,by simp⟩
 ·simp[Value.cells] at hcs
  obtain⟨rfl,rfl,rfl⟩:=hcs
  simp only[if_true] at hmm
  have each:∀ i,i<len→∃ e:Ev,(e.user.size≤9223372036854775807∧e.other.size≤9223372036854775807)∧W.cell? (a.add (i*6))=some (.int .i64 e.kind)∧W.cell? ((a.add (i*6)).add 1)=some (.int .i64 e.time)∧W.cell? ((a.add (i*6)).add 2)=some (.string e.user)∧W.cell? ((a.add (i*6)).add 3)=some (.string e.other)∧W.cell? ((a.add (i*6)).add 4)=some (.int .i64 e.n)∧W.cell? ((a.add (i*6)).add 5)=some (.int .i64 e.st):=by
   intro i hi
   obtain⟨cs',h1,h2⟩:=hel i (by omega)
   have:=ev_cell h1 h2
   rw[cells_ev] at this
   exact this
  haveI:Inhabited Ev:=⟨⟨0,0,⟨#[]⟩,⟨#[]⟩,0,0⟩⟩
  obtain⟨l,hll,hP⟩:=Ds.ZF len _ each
  refine⟨l,⟨some a,cap,by rw[hll],fun j hj=>?_⟩,fun e he=>?_⟩
  ·obtain⟨b,off,spot⟩:=a
   obtain⟨_,e0,e1,e2,e3,e4,e5⟩:=hP j hj
   have hspot:spot=none:=by
    have:=World.cell?_spot (hP 0 (by omega)).2.1
    simpa[Addr.add] using this
   subst hspot
   rw[Ds.add_plain] at e0
   rw[Ds.add_plain,Ds.add_plain] at e1 e2 e3 e4 e5
   exact⟨b,off,rfl,e0,e1,e2,e3,e4,e5⟩
  ·obtain⟨i,hi,rfl⟩:=List.mem_iff_getElem.1 he
   exact(hP i hi).1
theorem read_ask {H:Type}{enc:TypeId×Value→H}{W:World}{base:Nat}{v:Value}{d:DataW H}{ps:List MemPlace}(hok:Value.okWide Tryz.prog W .any base 24 v)
 (h:DataW.Trod enc Tryz.prog W 0 (fun _=>true) true 24 v d ps):∃ (qw qu:ByteArray) (qa qb qn:Int),v= .agg #[.string qw,.string qu,.int .i64 qa,.int .i64 qb,.int .i64 qn]∧qw.size≤9223372036854775807∧qu.size≤9223372036854775807:=by
 obtain⟨cs,rfl,hn⟩:=okWide_struct Tryz.underlying24 hok
 obtain⟨fuel,hf⟩:=h
 obtain⟨xs,k,hk,hxy,hcl,hxl,hf⟩:=DataW.trod_struct Tryz.underlying24 hf
 have h5:Tryz.prog.cellsOf 24 =5:=by kernel_rfl
 rw[h5] at hn
 obtain⟨cs⟩:=cs
 match xs,hxl,cs,hn with
 | [y0,y1,y2,y3,y4],_,[v0,v1,v2,v3,v4],_=>
  have q0:DataW.trod enc Tryz.prog W 0 (fun _=>true) true k 9 [v0]=some y0:=hf 0 _ rfl
  have q1:DataW.trod enc Tryz.prog W 0 (fun _=>true) true k 9 [v1]=some y1:=hf 1 _ rfl
  have q2:DataW.trod enc Tryz.prog W 0 (fun _=>true) true k 3 [v2]=some y2:=hf 2 _ rfl
  have q3:DataW.trod enc Tryz.prog W 0 (fun _=>true) true k 3 [v3]=some y3:=hf 3 _ rfl
  have q4:DataW.trod enc Tryz.prog W 0 (fun _=>true) true k 3 [v4]=some y4:=hf 4 _ rfl
  obtain⟨z0,hz0,hd0,w0⟩:=DataW.trod_string Tryz.underlying9 q0
  obtain⟨z1,hz1,hd1,w1⟩:=DataW.trod_string Tryz.underlying9 q1
  obtain⟨z2,hz2,hd2,w2⟩:=DataW.trod_int Tryz.underlying3 q2
  obtain⟨z3,hz3,hd3,w3⟩:=DataW.trod_int Tryz.underlying3 q3
  obtain⟨z4,hz4,hd4,w4⟩:=DataW.trod_int Tryz.underlying3 q4
  simp only[List.cons.injEq,and_true] at hz0 hz1 hz2 hz3 hz4
  subst hz0 hz1 hz2 hz3 hz4
  exact⟨z0,z1,z2,z3,z4,rfl,str_small w0,str_small w1⟩
theorem tab_eq {H:Type}:(Rows.laid_internal_strconv_uint64pow10:DataW H)=Lib.tabData .u64 Lib.pow10Tab:=by kernel_rfl
theorem star: "*" ++ "errors.errorString" = "*errors.errorString":=by decide
theorem rowE (u:TypeId)(h:Tryz.prog.typeName? 3 u=some "*errors.errorString"):u=443:=
 typeName_ptr_named (nm:= "errors.errorString") (by rw[star];kernel_rfl) (by kernel_rfl) (by decide) u (by rw[star];exact h)
theorem gb_of {W:World}(hL:laidMet Tryz.prog Rows.afterglowSecretRow.laid W)(hsh:W.ShapedOpen Tryz.prog):Gb W:=by
 have h1:∃ m,W.cell? ⟨1,0,none⟩=some (.int .i64 m):=cell_of_shapedOpen_int (t:=3) (zero:=#[.int .i64 0]) hsh (by decide+kernel) (by kernel_rfl) rfl (by kernel_rfl) (by kernel_rfl) Tryz.underlying3
 have hT:laidMet Tryz.prog (("internal/strconv.uint64pow10",Lib.tabData .u64 Lib.pow10Tab)::("unicode/utf8.acceptRanges",Rows.laid_unicode_utf8_acceptRanges)::("strconv.ErrRange",Rows.laid_strconv_ErrRange)::("strconv.ErrSyntax",Rows.laid_strconv_ErrSyntax)::[("unicode/utf8.first",Rows.laid_unicode_utf8_first)]) W:=by
  rw[←tab_eq];exact hL.tail.tail
 have hR:laidMet Tryz.prog (("strconv.ErrRange",Rows.laid_strconv_ErrRange)::("strconv.ErrSyntax",Rows.laid_strconv_ErrSyntax)::[("unicode/utf8.first",Rows.laid_unicode_utf8_first)]) W:=hT.tail.tail
 have hS:=hR.tail
 have gR:Tryz.prog.globalNamed "strconv.ErrRange" =some 3:=by kernel_rfl
 have gS:Tryz.prog.globalNamed "strconv.ErrSyntax" =some 2:=by kernel_rfl
 have tR:(Tryz.prog.globals[3]?).map (·.type)=some 209:=by kernel_rfl
 have tS:(Tryz.prog.globals[2]?).map (·.type)=some 209:=by kernel_rfl
 obtain⟨a3,s3,v3,_⟩:=laid_sentinel hR gR tR Tryz.underlying209 rowE Tryz.underlying443 Tryz.underlying445 rfl rfl Tryz.underlying9 (by kernel_rfl) (by kernel_rfl)
 obtain⟨a2,s2,v2,_⟩:=laid_sentinel hS gS tS Tryz.underlying209 rowE Tryz.underlying443 Tryz.underlying445 rfl rfl Tryz.underlying9 (by kernel_rfl) (by kernel_rfl)
 have c3:W.cell? ⟨3,0,none⟩=some (.iface 443 (.pointer (some a3))):=by simpa using World.var?_cell gR v3 0
 have hsz:3<W.heap.size:=by
  rcases Nat.lt_or_ge 3 W.heap.size with h | h
  ·exact h
  ·simp[World.cell?,Array.getElem?_eq_none h] at c3
 refine⟨hsz,h1,⟨_,_,by simpa using World.var?_cell gS v2 0⟩,⟨_,_,c3⟩,?_⟩
 exact Lib.tabIs_of_head (by kernel_rfl:Tryz.prog.globalNamed "internal/strconv.uint64pow10" =some 0) (by kernel_rfl:(Tryz.prog.globals[0]?).map (·.type)=some 391) Tryz.underlying391 Tryz.underlying323 (by kernel_rfl) (by kernel_rfl) hT
theorem lifted (walk:∀ (w:World) (vl vm:Value) (L M:List Ev) (qw qu:ByteArray) (qa qb qn:Int),uD w vl L→uD w vm M→(∀ e∈L,e.user.size≤9223372036854775807∧e.other.size≤9223372036854775807)→(∀ e∈M,e.user.size≤9223372036854775807∧e.other.size≤9223372036854775807)→qw.size≤9223372036854775807→qu.size≤9223372036854775807→Gb w→
 Calls Tryz.prog 3 #[vl,vm,.agg #[.string qw,.string qu,.int .i64 qa,.int .i64 qb,.int .i64 qn]] w fun e w'=>e= .returned (.bool true)∧Bl w w') (os:Os) (started:os.Started) (H:Type) (enc:TypeId×Value→H) (F:Stop.Interp):
 ReturnsInHanded {} Tryz.checked os 3 .any ((OpenSpec.ofChange Rows.afterglowSecretSpec).preRow enc Tryz.prog Tryz.f3 Rows.afterglowSecretRow.domain false Rows.afterglowSecretRow.laid) (((OpenSpec.ofChange Rows.afterglowSecretSpec).at F).post enc Tryz.prog Tryz.f3 false true false false):=by
 refine returnsInHanded_of_row (C:=Tryz.checked) (s:=OpenSpec.ofChange Rows.afterglowSecretSpec) own started (by kernel_rfl) Tryz.func3
  (ChangeSpec.witness_shaped (enc:=enc) (C:=Tryz.checked) (os:=os) (X:=fun w _=>laidMetH Tryz.prog Rows.afterglowSecretRow.laid w) false (World.laidAll Tryz.prog os Rows.afterglowSecretRow.laid) #[.slice none 0 0,.slice none 0 0,.agg #[.string ⟨#[]⟩,.string ⟨#[]⟩,.int .i64 0,.int .i64 0,.int .i64 0]] 8 (World.laidAll_os _ _ _)
   (World.shaped_of_ZipB (by kernel_rfl) (by kernel_rfl)) (by kernel_rfl) (by kernel_rfl) (by kernel_rfl)
   (by rw[MakeChecks.laidMetH_plain _ _ _ (by kernel_rfl)];exact laidMet_laidAll _ (by kernel_rfl) (by kernel_rfl))) ?_
 intro W base args ds gs before hval0 hW _ _ _ hL hsh _
 have hval:∀ (j:Nat) t v,Tryz.f3.params[j]?=some t→args[j]?=some v→Value.okWide Tryz.prog W .any base t v:=hval0
 have hW':=hW
 obtain⟨p,q,hA0,hV,rfl,_,_⟩:=hW
 have hA:DataW.TrodAll enc Tryz.prog W 0 (fun _=>true) true Tryz.f3.params.toList args.toList ds p:=hA0
 rw[Tryz.params3] at hA hval
 obtain⟨v0,vs0,d0,ds0,p0,q0,hargs,rfl,rfl,h0,r0⟩:=trodAll_cons hA
 obtain⟨v1,vs1,d1,ds1,p1,q1,rfl,rfl,rfl,h1,r1⟩:=trodAll_cons r0
 obtain⟨v2,vs2,d2,ds2,p2,q2,rfl,rfl,rfl,h2,r2⟩:=trodAll_cons r1
 obtain⟨rfl,rfl,rfl⟩:=trodAll_nil r2
 obtain rfl:args=#[v0,v1,v2]:=by cases args;simp_all
 obtain⟨rfl,rfl⟩:=trodVars_none hV
 have lt0:∀ x∈p0,x.block<W.heap.size:=by obtain⟨m,hm⟩:=h0;exact DataW.trod_lt m _ _ _ hm
 have lt1:∀ x∈p1,x.block<W.heap.size:=by obtain⟨m,hm⟩:=h1;exact DataW.trod_lt m _ _ _ hm
 have lt2:∀ x∈p2,x.block<W.heap.size:=by obtain⟨m,hm⟩:=h2;exact DataW.trod_lt m _ _ _ hm
 obtain⟨L,hl,hL'⟩:=read_evs (hval 0 22 v0 rfl rfl) h0
 obtain⟨M,hm,hM'⟩:=read_evs (hval 1 22 v1 rfl rfl) h1
 obtain⟨qw,qu,qa,qb,qn,rfl,hqw,hqu⟩:=read_ask (hval 2 24 v2 rfl rfl) h2
 clear hA0 hval0
 rw[MakeChecks.laidMetH_plain _ _ _ (by kernel_rfl)] at hL
 have hg:Gb W:=gb_of hL hsh
 refine(walk W v0 v1 L M qw qu qa qb qn hl hm hL' hM' hqw hqu hg).mono fun e W' ⟨he,bel⟩=>?_
 subst he
 exact⟨_,rfl,_,_,_,[],_,[],hW',trodAll_mk1 (shut_bool Tryz.underlying4 _),(trodAll_cons_mk (Below.trod laidOut (by kernel_rfl) (of_decide_eq_true (by kernel_rfl)) h0 bel lt0) (trodAll_cons_mk (Below.trod laidOut (by kernel_rfl) (of_decide_eq_true (by kernel_rfl)) h1 bel lt1) (trodAll_cons_mk (Below.trod laidOut (by kernel_rfl) (of_decide_eq_true (by kernel_rfl)) h2 bel lt2) trodAll_mk0))),rfl,Below.frame bel _,fun h=>by cases h⟩
end Go.Proofs.YtkpdknkidnfgiaaGreatDoor.afterglowSecret
