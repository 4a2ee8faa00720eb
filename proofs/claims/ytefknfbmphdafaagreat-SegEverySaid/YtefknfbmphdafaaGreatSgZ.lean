/- Four files, and a disk with a frame: what they are, in plain words. -/
import Derived.Test.YtefknfbmphdafaaGreatSgH
import Derived.Test.YtefknfbmphdafaaGreatSgY
namespace Go.Proofs.YtefknfbmphdafaaGreat
namespace SgM
open Go Go.RowKit CrcM FrM
open Ds (Blk DiskAt Kp Bd nul ptr Dk)

def sC3 : ByteArray := ⟨#[99, 48, 48, 48, 48, 48, 48, 48, 51]⟩
def sS2 : ByteArray := ⟨#[115, 48, 48, 48, 48, 48, 48, 48, 50]⟩
def sS3 : ByteArray := ⟨#[115, 48, 48, 48, 48, 48, 48, 48, 51]⟩
def sR4 : ByteArray := ⟨#[114, 48, 48, 48, 48, 48, 48, 48, 52]⟩
def sX : ByteArray := ⟨#[120]⟩
def sRa : ByteArray := ⟨#[114, 48, 48, 48, 48, 48, 48, 48, 97]⟩
def sRA : ByteArray := ⟨#[114, 48, 48, 48, 48, 48, 48, 48, 65]⟩
def sS0 : ByteArray := ⟨#[115, 48, 48, 48, 48, 48, 48, 48, 48]⟩
def fiveF : List ByteArray := [sC3, sS2, sS3, sR4, sX]
theorem five_uq : uq (pkS fiveF) = [⟨115, 2⟩, ⟨99, 3⟩, ⟨115, 3⟩, ⟨114, 4⟩] := by decide +kernel
theorem five_snp : snp (uq (pkS fiveF)) = some ⟨99, 3⟩ := by decide +kernel
theorem five_segs : segsL (uq (pkS fiveF)) (snp (uq (pkS fiveF))) = [⟨115, 3⟩, ⟨114, 4⟩] := by decide +kernel
theorem five_trn : trN (uq (pkS fiveF)) (snp (uq (pkS fiveF))) = [sS2.data.toList] := by decide +kernel
theorem five_sort : (trN (uq (pkS fiveF)) (snp (uq (pkS fiveF)))).mergeSort leB = [sS2.data.toList] := by rw [five_trn]; simp
theorem ra_ok : ofB sRa.data.toList = true ∧ ofS sRa.data.toList = ⟨114, 10⟩ := by decide +kernel
theorem rA_no : ofB sRA.data.toList = false := by decide +kernel
theorem ra_nm : nmB ⟨114, 10⟩ = sRa := ba_ext (by rw [nmB_list]; decide +kernel)
theorem nxt_five : nxt true 3 [⟨115, 3⟩, ⟨114, 4⟩] = 5 := by decide +kernel
theorem nxt_none : nxt false 0 [] = 0 := by decide +kernel
theorem cmp_five : cmpS ⟨115, 3⟩ ⟨114, 4⟩ = -1 := by decide +kernel
def tHi : ByteArray := pkSb 97 ⟨#[104, 105]⟩
def xHi : ByteArray := ⟨#[120]⟩ ++ tHi
theorem hi_size : xHi.size = 17 := by decide +kernel
theorem hi_fnd : fnd xHi xHi.size = [(97, ⟨#[104, 105]⟩)] := by decide +kernel
/-! ### the disk -/
def E0 : Dk := Ds.newS 1000
def E1 : Dk := (Ds.doC E0 sS0).1
def E2 : Dk := (Ds.doA E1 sS0 xHi).1
def E3 : Dk := { E2 with reads := E2.reads + (1 : Nat) }
theorem e1 : Ds.doC E0 sS0 = (E1, 0) := by kernel_rfl
theorem e2 : Ds.doA E1 sS0 xHi = (E2, 0) := by kernel_rfl
theorem e3 : whE E2 sS0 = 0 := by decide +kernel
theorem e4 : whX E2 sS0 = xHi := by decide +kernel
theorem e5 : whN E2 sS0 = 1 := by decide +kernel
theorem e6 : evS E3 E3.L = [(97, ⟨#[104, 105]⟩)] := by decide +kernel
theorem be0 : Bd E0 := ⟨by decide +kernel, by decide +kernel, by decide +kernel, by decide +kernel, by decide +kernel, by decide +kernel, by decide +kernel, by decide +kernel, by decide +kernel, by decide +kernel, by decide +kernel, by unfold Ds.DkM.Rise; decide +kernel⟩
theorem be1 : Bd E1 := ⟨by decide +kernel, by decide +kernel, by decide +kernel, by decide +kernel, by decide +kernel, by decide +kernel, by decide +kernel, by decide +kernel, by decide +kernel, by decide +kernel, by decide +kernel, by unfold Ds.DkM.Rise; decide +kernel⟩
theorem be2 : Bd E2 := ⟨by decide +kernel, by decide +kernel, by decide +kernel, by decide +kernel, by decide +kernel, by decide +kernel, by decide +kernel, by decide +kernel, by decide +kernel, by decide +kernel, by decide +kernel, by unfold Ds.DkM.Rise; decide +kernel⟩
theorem be3 : Bd E3 := ⟨by decide +kernel, by decide +kernel, by decide +kernel, by decide +kernel, by decide +kernel, by decide +kernel, by decide +kernel, by decide +kernel, by decide +kernel, by decide +kernel, by decide +kernel, by unfold Ds.DkM.Rise; decide +kernel⟩
theorem en3 : ∀ f ∈ E3.L, f.n.size ≤ 20 := by decide +kernel
theorem en4 : Ds.DkM.usd E3.L ≤ 5000 := by decide +kernel
theorem en5 : E3.L.length ≤ 100 := by decide +kernel
theorem op_at' {R : Dk × Nat} {A : Dk} {c : Nat} {p b : Nat} {w w' : World} {e : Ending} (h : R = (A, c)) (hp : Ds.OpPost R p b w e w') : e = .returned (.int .i64 (c : Nat)) ∧ DiskAt w' p b A ∧ Kp p b w w' := by subst h; exact hp
theorem hi_pack : pkE 97 (⟨#[104, 105]⟩ : ByteArray).data.toList = 0 := by decide +kernel
end SgM
end Go.Proofs.YtefknfbmphdafaaGreat
