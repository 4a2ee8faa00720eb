/- Lemmas for AfterglowSecret: what functions of the program return; no condition. -/
import Derived.Shelf.SlicesQ.IndexFunc
import Derived.Shelf.Spec.SlicesGrow
import Derived.Ground.Names8Prog
import Derived.Shelf.SlicesE.Clone
import Derived.Ground.SlgfProg
import Derived.Ground.SlgnProg
import Derived.Test.YtkpdknkidnfgiaaGreatDoorProg
set_option linter.unusedVariables false
namespace Go.Proofs
open Go.Shelf
def Tryz.ixfStay_ren:Go.Shelf.Ren:=⟨fun | 6=>206 | n=>n,fun | 22=>84 | 23=>112 | 25=>228 | 3=>3 | 0=>0 | 4=>4 | n=>n,fun | n=>n⟩
theorem Tryz.ixfStay:Go.Proofs.SlLaysH0.n6 Tryz.prog Tryz.ixfStay_ren:=by
 constructor
 case f6=>exact⟨Tryz.f206.name,by decide,Tryz.func206.trans (congrArg some (by kernel_rfl))⟩
 repeat' first | kernel_rfl | (intros;kernel_rfl) | constructor
def Tryz.ixfTomb_ren:Go.Shelf.Ren:=⟨fun | 6=>218 | n=>n,fun | 22=>129 | 23=>244 | 25=>245 | 3=>3 | 0=>0 | 4=>4 | n=>n,fun | n=>n⟩
theorem Tryz.ixfTomb:Go.Proofs.SlLaysH0.n6 Tryz.prog Tryz.ixfTomb_ren:=by
 constructor
 case f6=>exact⟨Tryz.f218.name,by decide,Tryz.func218.trans (congrArg some (by kernel_rfl))⟩
 repeat' first | kernel_rfl | (intros;kernel_rfl) | constructor
def Tryz.ixfSpan_ren:Go.Shelf.Ren:=⟨fun | 6=>316 | n=>n,fun | 22=>223 | 23=>110 | 25=>342 | 3=>3 | 0=>0 | 4=>4 | n=>n,fun | n=>n⟩
theorem Tryz.ixfSpan:Go.Proofs.SlLaysH0.n6 Tryz.prog Tryz.ixfSpan_ren:=by
 constructor
 case f6=>exact⟨Tryz.f316.name,by decide,Tryz.func316.trans (congrArg some (by kernel_rfl))⟩
 repeat' first | kernel_rfl | (intros;kernel_rfl) | constructor
def Tryz.ixfSess_ren:Go.Shelf.Ren:=⟨fun | 6=>322 | n=>n,fun | 22=>126 | 23=>289 | 25=>406 | 3=>3 | 0=>0 | 4=>4 | n=>n,fun | n=>n⟩
theorem Tryz.ixfSess:Go.Proofs.SlLaysH0.n6 Tryz.prog Tryz.ixfSess_ren:=by
 constructor
 case f6=>exact⟨Tryz.f322.name,by decide,Tryz.func322.trans (congrArg some (by kernel_rfl))⟩
 repeat' first | kernel_rfl | (intros;kernel_rfl) | constructor
def Tryz.ixfSubs_ren:Go.Shelf.Ren:=⟨fun | 6=>325 | n=>n,fun | 22=>128 | 23=>293 | 25=>359 | 3=>3 | 0=>0 | 4=>4 | n=>n,fun | n=>n⟩
theorem Tryz.ixfSubs:Go.Proofs.SlLaysH0.n6 Tryz.prog Tryz.ixfSubs_ren:=by
 constructor
 case f6=>exact⟨Tryz.f325.name,by decide,Tryz.func325.trans (congrArg some (by kernel_rfl))⟩
 repeat' first | kernel_rfl | (intros;kernel_rfl) | constructor
def Tryz.ixfUser_ren:Go.Shelf.Ren:=⟨fun | 6=>383 | n=>n,fun | 22=>127 | 23=>282 | 25=>416 | 3=>3 | 0=>0 | 4=>4 | n=>n,fun | n=>n⟩
theorem Tryz.ixfUser:Go.Proofs.SlLaysH0.n6 Tryz.prog Tryz.ixfUser_ren:=by
 constructor
 case f6=>exact⟨Tryz.f383.name,by decide,Tryz.func383.trans (congrArg some (by kernel_rfl))⟩
 repeat' first | kernel_rfl | (intros;kernel_rfl) | constructor
def Tryz.clnStay_ren:Go.Shelf.Ren:=⟨fun | 41=>197 | n=>n,fun | 22=>84 | 23=>112 | 4=>4 | n=>n,fun | n=>n⟩
theorem Tryz.clnStay:Go.Proofs.SlLaysE0.n41 Tryz.prog Tryz.clnStay_ren:=by
 constructor
 case f41=>exact⟨Tryz.f197.name,by decide,Tryz.func197.trans (congrArg some (by kernel_rfl))⟩
 repeat' first | kernel_rfl | (intros;kernel_rfl) | constructor
def Tryz.clnSess_ren:Go.Shelf.Ren:=⟨fun | 41=>202 | n=>n,fun | 22=>126 | 23=>289 | 4=>4 | n=>n,fun | n=>n⟩
theorem Tryz.clnSess:Go.Proofs.SlLaysE0.n41 Tryz.prog Tryz.clnSess_ren:=by
 constructor
 case f41=>exact⟨Tryz.f202.name,by decide,Tryz.func202.trans (congrArg some (by kernel_rfl))⟩
 repeat' first | kernel_rfl | (intros;kernel_rfl) | constructor
def Tryz.clnUser_ren:Go.Shelf.Ren:=⟨fun | 41=>203 | n=>n,fun | 22=>127 | 23=>282 | 4=>4 | n=>n,fun | n=>n⟩
theorem Tryz.clnUser:Go.Proofs.SlLaysE0.n41 Tryz.prog Tryz.clnUser_ren:=by
 constructor
 case f41=>exact⟨Tryz.f203.name,by decide,Tryz.func203.trans (congrArg some (by kernel_rfl))⟩
 repeat' first | kernel_rfl | (intros;kernel_rfl) | constructor
def Tryz.clnSubs_ren:Go.Shelf.Ren:=⟨fun | 41=>204 | n=>n,fun | 22=>128 | 23=>293 | 4=>4 | n=>n,fun | n=>n⟩
theorem Tryz.clnSubs:Go.Proofs.SlLaysE0.n41 Tryz.prog Tryz.clnSubs_ren:=by
 constructor
 case f41=>exact⟨Tryz.f204.name,by decide,Tryz.func204.trans (congrArg some (by kernel_rfl))⟩
 repeat' first | kernel_rfl | (intros;kernel_rfl) | constructor
def Tryz.clnTomb_ren:Go.Shelf.Ren:=⟨fun | 41=>205 | n=>n,fun | 22=>129 | 23=>244 | 4=>4 | n=>n,fun | n=>n⟩
theorem Tryz.clnTomb:Go.Proofs.SlLaysE0.n41 Tryz.prog Tryz.clnTomb_ren:=by
 constructor
 case f41=>exact⟨Tryz.f205.name,by decide,Tryz.func205.trans (congrArg some (by kernel_rfl))⟩
 repeat' first | kernel_rfl | (intros;kernel_rfl) | constructor
def Tryz.clnSpan_ren:Go.Shelf.Ren:=⟨fun | 41=>250 | n=>n,fun | 22=>223 | 23=>110 | 4=>4 | n=>n,fun | n=>n⟩
theorem Tryz.clnSpan:Go.Proofs.SlLaysE0.n41 Tryz.prog Tryz.clnSpan_ren:=by
 constructor
 case f41=>exact⟨Tryz.f250.name,by decide,Tryz.func250.trans (congrArg some (by kernel_rfl))⟩
 repeat' first | kernel_rfl | (intros;kernel_rfl) | constructor
def Tryz.grwStay_ren:Go.Shelf.Ren:=⟨fun | 4=>321 | n=>n,fun | 22=>84 | 25=>112 | 3=>3 | 4=>4 | 9=>9 | 20=>20 | 0=>0 | n=>n,fun | n=>n⟩
theorem Tryz.grwStay:Go.Proofs.Lays8.n4 Tryz.prog Tryz.grwStay_ren:=by
 constructor
 case f4=>exact⟨Tryz.f321.name,by decide,Tryz.func321.trans (congrArg some (by kernel_rfl))⟩
 repeat' first | kernel_rfl | (intros;kernel_rfl) | constructor
def Tryz.grwSess_ren:Go.Shelf.Ren:=⟨fun | 4=>357 | n=>n,fun | 22=>126 | 25=>289 | 3=>3 | 4=>4 | 9=>9 | 20=>20 | 0=>0 | n=>n,fun | n=>n⟩
theorem Tryz.grwSess:Go.Proofs.Lays8.n4 Tryz.prog Tryz.grwSess_ren:=by
 constructor
 case f4=>exact⟨Tryz.f357.name,by decide,Tryz.func357.trans (congrArg some (by kernel_rfl))⟩
 repeat' first | kernel_rfl | (intros;kernel_rfl) | constructor
def Tryz.grwUser_ren:Go.Shelf.Ren:=⟨fun | 4=>358 | n=>n,fun | 22=>127 | 25=>282 | 3=>3 | 4=>4 | 9=>9 | 20=>20 | 0=>0 | n=>n,fun | n=>n⟩
theorem Tryz.grwUser:Go.Proofs.Lays8.n4 Tryz.prog Tryz.grwUser_ren:=by
 constructor
 case f4=>exact⟨Tryz.f358.name,by decide,Tryz.func358.trans (congrArg some (by kernel_rfl))⟩
 repeat' first | kernel_rfl | (intros;kernel_rfl) | constructor
def Tryz.grwSubs_ren:Go.Shelf.Ren:=⟨fun | 4=>377 | n=>n,fun | 22=>128 | 25=>293 | 3=>3 | 4=>4 | 9=>9 | 20=>20 | 0=>0 | n=>n,fun | n=>n⟩
theorem Tryz.grwSubs:Go.Proofs.Lays8.n4 Tryz.prog Tryz.grwSubs_ren:=by
 constructor
 case f4=>exact⟨Tryz.f377.name,by decide,Tryz.func377.trans (congrArg some (by kernel_rfl))⟩
 repeat' first | kernel_rfl | (intros;kernel_rfl) | constructor
end Go.Proofs
