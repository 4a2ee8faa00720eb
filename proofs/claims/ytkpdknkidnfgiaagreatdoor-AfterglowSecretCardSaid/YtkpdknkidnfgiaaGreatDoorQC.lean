/- Lemmas for AfterglowSecret: what functions of the program return; no condition. -/
import Derived.Shelf.SlSortCmp.NoneTotal
import Derived.Ground.SlsfProg
import Derived.Test.YtkpdknkidnfgiaaGreatDoorProg
set_option linter.unusedVariables false
namespace Go.Proofs
open Go.Shelf
def Tryz.sortf_ren:Go.Shelf.Ren:=⟨fun | 6=>152 | 15=>221 | 14=>223 | 28=>284 | 29=>285 | 20=>286 | 21=>287 | 22=>288 | 23=>289 | 24=>290 | 25=>291 | 26=>292 | 27=>293 | 46=>349 | 47=>344 | 48=>345 | 49=>350 | 50=>351 | 57=>404 | n=>n,fun | 22=>177 | 24=>133 | 25=>250 | 3=>3 | 39=>310 | 0=>0 | 53=>371 | 55=>323 | 4=>4 | 46=>364 | 45=>363 | 50=>89 | 5=>5 | 9=>9 | 66=>424 | 70=>428 | 76=>468 | 77=>469 | n=>n,fun | n=>n⟩
theorem Tryz.sortf:Go.Proofs.SlLaysF0.n6 Tryz.prog Tryz.sortf_ren:=by
 constructor
 case f6=>exact⟨Tryz.f152.name,by decide,Tryz.func152.trans (congrArg some (by kernel_rfl))⟩
 case f14=>exact⟨Tryz.f223.name,by decide,Tryz.func223.trans (congrArg some (by kernel_rfl))⟩
 case f20=>exact⟨Tryz.f286.name,by decide,Tryz.func286.trans (congrArg some (by kernel_rfl))⟩
 case f21=>exact⟨Tryz.f287.name,by decide,Tryz.func287.trans (congrArg some (by kernel_rfl))⟩
 case f22=>exact⟨Tryz.f288.name,by decide,Tryz.func288.trans (congrArg some (by kernel_rfl))⟩
 case f23=>exact⟨Tryz.f289.name,by decide,Tryz.func289.trans (congrArg some (by kernel_rfl))⟩
 case f24=>exact⟨Tryz.f290.name,by decide,Tryz.func290.trans (congrArg some (by kernel_rfl))⟩
 case f25=>exact⟨Tryz.f291.name,by decide,Tryz.func291.trans (congrArg some (by kernel_rfl))⟩
 case f26=>exact⟨Tryz.f292.name,by decide,Tryz.func292.trans (congrArg some (by kernel_rfl))⟩
 case f27=>exact⟨Tryz.f293.name,by decide,Tryz.func293.trans (congrArg some (by kernel_rfl))⟩
 case f46=>exact⟨Tryz.f349.name,by decide,Tryz.func349.trans (congrArg some (by kernel_rfl))⟩
 case f49=>exact⟨Tryz.f350.name,by decide,Tryz.func350.trans (congrArg some (by kernel_rfl))⟩
 case f50=>exact⟨Tryz.f351.name,by decide,Tryz.func351.trans (congrArg some (by kernel_rfl))⟩
 case f57=>exact⟨Tryz.f404.name,by decide,Tryz.func404.trans (congrArg some (by kernel_rfl))⟩
 repeat' first | kernel_rfl | (intros;kernel_rfl) | constructor
def Tryz.sortS_ren:Go.Shelf.Ren:=⟨fun | 6=>251 | 15=>221 | 14=>317 | 28=>284 | 29=>285 | 20=>367 | 21=>368 | 22=>369 | 23=>370 | 24=>371 | 25=>372 | 26=>373 | 27=>374 | 46=>406 | 47=>344 | 48=>345 | 49=>407 | 50=>408 | 57=>413 | n=>n,fun | 22=>223 | 24=>110 | 25=>344 | 3=>3 | 39=>310 | 0=>0 | 53=>371 | 55=>323 | 4=>4 | 46=>364 | 45=>363 | 50=>89 | 5=>5 | 9=>9 | 66=>424 | 70=>428 | 76=>468 | 77=>469 | n=>n,fun | n=>n⟩
theorem Tryz.sortS:Go.Proofs.SlLaysF0.n6 Tryz.prog Tryz.sortS_ren:=by
 constructor
 case f6=>exact⟨Tryz.f251.name,by decide,Tryz.func251.trans (congrArg some (by kernel_rfl))⟩
 case f14=>exact⟨Tryz.f317.name,by decide,Tryz.func317.trans (congrArg some (by kernel_rfl))⟩
 case f20=>exact⟨Tryz.f367.name,by decide,Tryz.func367.trans (congrArg some (by kernel_rfl))⟩
 case f21=>exact⟨Tryz.f368.name,by decide,Tryz.func368.trans (congrArg some (by kernel_rfl))⟩
 case f22=>exact⟨Tryz.f369.name,by decide,Tryz.func369.trans (congrArg some (by kernel_rfl))⟩
 case f23=>exact⟨Tryz.f370.name,by decide,Tryz.func370.trans (congrArg some (by kernel_rfl))⟩
 case f24=>exact⟨Tryz.f371.name,by decide,Tryz.func371.trans (congrArg some (by kernel_rfl))⟩
 case f25=>exact⟨Tryz.f372.name,by decide,Tryz.func372.trans (congrArg some (by kernel_rfl))⟩
 case f26=>exact⟨Tryz.f373.name,by decide,Tryz.func373.trans (congrArg some (by kernel_rfl))⟩
 case f27=>exact⟨Tryz.f374.name,by decide,Tryz.func374.trans (congrArg some (by kernel_rfl))⟩
 case f46=>exact⟨Tryz.f406.name,by decide,Tryz.func406.trans (congrArg some (by kernel_rfl))⟩
 case f49=>exact⟨Tryz.f407.name,by decide,Tryz.func407.trans (congrArg some (by kernel_rfl))⟩
 case f50=>exact⟨Tryz.f408.name,by decide,Tryz.func408.trans (congrArg some (by kernel_rfl))⟩
 case f57=>exact⟨Tryz.f413.name,by decide,Tryz.func413.trans (congrArg some (by kernel_rfl))⟩
 repeat' first | kernel_rfl | (intros;kernel_rfl) | constructor
end Go.Proofs
