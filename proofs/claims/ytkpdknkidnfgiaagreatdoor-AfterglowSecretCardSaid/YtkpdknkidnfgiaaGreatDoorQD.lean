/- Lemmas for AfterglowSecret: what functions of the program return; no condition. -/
import Derived.Shelf.SlIter.Nil
import Derived.Shelf.SortM.Plain
import Derived.Shelf.SortM.SortNone
import Derived.Ground.GgzProg
import Derived.Ground.SlgmProg
import Derived.Ground.SlmcProg
import Derived.Shelf.SlMaps.Clone
import Derived.Test.YtkpdknkidnfgiaaGreatDoorProg
set_option linter.unusedVariables false
namespace Go.Proofs
open Go.Shelf
def Tryz.keys94_ren:Go.Shelf.Ren:=⟨fun | 7=>94 | 10=>150 | n=>n,fun | 23=>107 | 26=>9 | 3=>142 | 28=>175 | 0=>0 | 27=>174 | 33=>54 | 4=>4 | n=>n,fun | n=>n⟩
theorem Tryz.keys94:Go.Proofs.SlLaysZ.n7 Tryz.prog Tryz.keys94_ren:=by
 constructor
 case f7=>exact⟨Tryz.f94.name,by decide,Tryz.func94.trans (congrArg some (by kernel_rfl))⟩
 case f10=>exact⟨Tryz.f150.name,by decide,Tryz.func150.trans (congrArg some (by kernel_rfl))⟩
 repeat' first | kernel_rfl | (intros;kernel_rfl) | constructor
def Tryz.sorted93_ren:Go.Shelf.Ren:=⟨fun | 6=>93 | 8=>148 | 9=>149 | 11=>219 | 13=>221 | 12=>220 | 23=>284 | 24=>285 | 14=>275 | 15=>276 | 16=>277 | 17=>278 | 18=>279 | 19=>280 | 20=>281 | 21=>282 | 22=>283 | 25=>343 | 26=>344 | 27=>345 | 28=>346 | 29=>347 | 30=>348 | 31=>403 | n=>n,fun | 26=>9 | 28=>175 | 24=>48 | 0=>0 | 3=>3 | 37=>310 | 48=>371 | 50=>323 | 4=>4 | 40=>364 | 39=>363 | 45=>89 | 5=>5 | 9=>9 | 51=>424 | 55=>428 | 57=>468 | 58=>469 | 33=>54 | n=>n,fun | n=>n⟩
theorem Tryz.sorted93:Go.Proofs.SlLaysZ.n6 Tryz.prog Tryz.sorted93_ren:=by
 constructor
 case f6=>exact⟨Tryz.f93.name,by decide,Tryz.func93.trans (congrArg some (by kernel_rfl))⟩
 case f8=>exact⟨Tryz.f148.name,by decide,Tryz.func148.trans (congrArg some (by kernel_rfl))⟩
 case f11=>exact⟨Tryz.f219.name,by decide,Tryz.func219.trans (congrArg some (by kernel_rfl))⟩
 repeat' first | kernel_rfl | (intros;kernel_rfl) | constructor
def Tryz.sort149_ren:Go.Shelf.Ren:=⟨fun | 6=>149 | 8=>221 | 9=>220 | 19=>284 | 20=>285 | 21=>275 | 22=>276 | 23=>277 | 24=>278 | 25=>279 | 26=>280 | 27=>281 | 28=>282 | 29=>283 | 36=>343 | 31=>344 | 32=>345 | 37=>346 | 38=>347 | 39=>348 | 41=>403 | n=>n,fun | 27=>48 | 29=>9 | 3=>3 | 32=>310 | 26=>48 | 0=>0 | 44=>371 | 46=>323 | 4=>4 | 36=>364 | 35=>363 | 41=>89 | 5=>5 | 9=>9 | 53=>424 | 57=>428 | 63=>468 | 64=>469 | n=>n,fun | n=>n⟩
theorem Tryz.sort149:Go.Proofs.SlLaysM.n6 Tryz.prog Tryz.sort149_ren:=by
 constructor
 case f6=>exact⟨Tryz.f149.name,by decide,Tryz.func149.trans (congrArg some (by kernel_rfl))⟩
 case f9=>exact⟨Tryz.f220.name,by decide,Tryz.func220.trans (congrArg some (by kernel_rfl))⟩
 case f21=>exact⟨Tryz.f275.name,by decide,Tryz.func275.trans (congrArg some (by kernel_rfl))⟩
 case f22=>exact⟨Tryz.f276.name,by decide,Tryz.func276.trans (congrArg some (by kernel_rfl))⟩
 case f23=>exact⟨Tryz.f277.name,by decide,Tryz.func277.trans (congrArg some (by kernel_rfl))⟩
 case f24=>exact⟨Tryz.f278.name,by decide,Tryz.func278.trans (congrArg some (by kernel_rfl))⟩
 case f25=>exact⟨Tryz.f279.name,by decide,Tryz.func279.trans (congrArg some (by kernel_rfl))⟩
 case f26=>exact⟨Tryz.f280.name,by decide,Tryz.func280.trans (congrArg some (by kernel_rfl))⟩
 case f27=>exact⟨Tryz.f281.name,by decide,Tryz.func281.trans (congrArg some (by kernel_rfl))⟩
 case f28=>exact⟨Tryz.f282.name,by decide,Tryz.func282.trans (congrArg some (by kernel_rfl))⟩
 case f29=>exact⟨Tryz.f283.name,by decide,Tryz.func283.trans (congrArg some (by kernel_rfl))⟩
 case f36=>exact⟨Tryz.f343.name,by decide,Tryz.func343.trans (congrArg some (by kernel_rfl))⟩
 case f37=>exact⟨Tryz.f346.name,by decide,Tryz.func346.trans (congrArg some (by kernel_rfl))⟩
 case f38=>exact⟨Tryz.f347.name,by decide,Tryz.func347.trans (congrArg some (by kernel_rfl))⟩
 case f39=>exact⟨Tryz.f348.name,by decide,Tryz.func348.trans (congrArg some (by kernel_rfl))⟩
 case f41=>exact⟨Tryz.f403.name,by decide,Tryz.func403.trans (congrArg some (by kernel_rfl))⟩
 repeat' first | kernel_rfl | (intros;kernel_rfl) | constructor
end Go.Proofs
