/-
  No cell of these rows narrows 'for every input' (looked for: loops, veiled, ifaces, maps, wideKeys, modest, calm, conditions, laid).
  DERIVED. THE GIVEN ROWS OF THIS SEAT. 3 by the template 'for every input the law returns true; each argument reads behind the call as it read before'; 0 by the template 'total and deterministic' (their statements: YtefknfbmphdafaaGreatTotals.lean).
  GIVEN WITH THE SEED: the statements are not yours to turn. If you find one false, say at which input.
  Laid BY PROGRAM, IN A SANDBOX (cutbox-rows.mjs): the forced cells as the released guide's own fill.sh prints them over the translation 65659fca3587cacd… (all of the seat's roots in one cut). By AI agents, Wed Nov 11 2026. No macro, syntax, notation, axiom, sorry.
-/
import Derived.Test.YtefknfbmphdafaaGreatChecked
import GoSem.Claim
import GoSem.ClaimJoined
import GoSem.ClaimMapViews
import Derived.JoinedTies
import Derived.KernelRfl
namespace Go.Proofs.YtefknfbmphdafaaGreat
/- THE CELL 'sum', in the pinned program and in every row, IS THE sha256 OF THE DUMP (.gsa) THAT YtefknfbmphdafaaGreatProg.lean LOADS. Nothing in Lean hashes anything: it is a label: what it is worth is what the hold of that sum in a sandbox is worth. -/
noncomputable def Tryz.pinned : Pinned := { name := "ytefknfbmphdafaagreat", sum := "65659fca3587cacda0a8014b1bdb4e350f7fb75eeeb677b9dd48b79edbdd9948", checked := Tryz.checked }
namespace Rows
def none {H : Type} : Left H := { results := [], args := [] }

/-- 'afterglowlaw16.SegLays': WHATEVER THE INPUT: true; the input reads as it did. -/
def segLaysSpec : ChangeSpec := { name := "segLays", fn := fun _ => fun
  | [d] => { results := [.lit (.bool true)], args := [d] }
  | _ => none }
def segLaysRow : OpenClaim := { program := "ytefknfbmphdafaagreat", sum := "65659fca3587cacda0a8014b1bdb4e350f7fb75eeeb677b9dd48b79edbdd9948", func := "afterglow/afterglowlaw16.SegLays", spec := "segLays", inPlace := ["internal/bytealg.IndexByteString", "internal/abi.NoEscape"], unfollowed := true, recurses := true, apart := false }
def SegLaysSaid : Prop := segLaysRow.holds Tryz.pinned (OpenSpec.ofChange segLaysSpec)

/-- ITS FALSE NEIGHBOUR: 'it returns false'. Refute it at one input. -/
def segLaysWrong : ChangeSpec := { name := "segLays", fn := fun _ => fun
  | [d] => { results := [.lit (.bool false)], args := [d] }
  | _ => none }
def SegLaysWrongFalsely : Prop := segLaysRow.holds Tryz.pinned (OpenSpec.ofChange segLaysWrong)

/-- 'afterglowlaw16.SegEvery': WHATEVER THE INPUT: true; the input reads as it did. -/
def segEverySpec : ChangeSpec := { name := "segEvery", fn := fun _ => fun
  | [d] => { results := [.lit (.bool true)], args := [d] }
  | _ => none }
def segEveryRow : OpenClaim := { program := "ytefknfbmphdafaagreat", sum := "65659fca3587cacda0a8014b1bdb4e350f7fb75eeeb677b9dd48b79edbdd9948", func := "afterglow/afterglowlaw16.SegEvery", spec := "segEvery", inPlace := ["internal/bytealg.IndexByteString", "internal/abi.NoEscape"], unfollowed := true, recurses := true, apart := false }
def SegEverySaid : Prop := segEveryRow.holds Tryz.pinned (OpenSpec.ofChange segEverySpec)

/-- ITS FALSE NEIGHBOUR: 'it returns false'. Refute it at one input. -/
def segEveryWrong : ChangeSpec := { name := "segEvery", fn := fun _ => fun
  | [d] => { results := [.lit (.bool false)], args := [d] }
  | _ => none }
def SegEveryWrongFalsely : Prop := segEveryRow.holds Tryz.pinned (OpenSpec.ofChange segEveryWrong)

/-- 'afterglowlaw16.SegWholes': WHATEVER THE INPUT: true; the input reads as it did. -/
def segWholesSpec : ChangeSpec := { name := "segWholes", fn := fun _ => fun
  | [d1, d2, d3] => { results := [.lit (.bool true)], args := [d1, d2, d3] }
  | _ => none }
def segWholesRow : OpenClaim := { program := "ytefknfbmphdafaagreat", sum := "65659fca3587cacda0a8014b1bdb4e350f7fb75eeeb677b9dd48b79edbdd9948", func := "afterglow/afterglowlaw16.SegWholes", spec := "segWholes", inPlace := ["internal/bytealg.IndexByteString", "internal/abi.NoEscape"], unfollowed := true, recurses := true, apart := false }
def SegWholesSaid : Prop := segWholesRow.holds Tryz.pinned (OpenSpec.ofChange segWholesSpec)

/-- ITS FALSE NEIGHBOUR: 'it returns false'. Refute it at one input. -/
def segWholesWrong : ChangeSpec := { name := "segWholes", fn := fun _ => fun
  | [d1, d2, d3] => { results := [.lit (.bool false)], args := [d1, d2, d3] }
  | _ => none }
def SegWholesWrongFalsely : Prop := segWholesRow.holds Tryz.pinned (OpenSpec.ofChange segWholesWrong)

/- THE SECOND FORM. 'bulk': how many values and letters a reading holds, each counted each time it is reached (what is shared counts as often as it is met; a slice's spare places count too). A statement '..UptoSaid' is the law's where the arguments, and the package variables that the reading takes, are together of bulk at most 1048576: NARROWER than '..Said'. Prove '..Said' where nothing that the law and all that it calls make is longer than what came in: it says more and counts as full. Else prove '..UptoSaid'. A law counts once. -/
mutual
def uptoBulk {H : Type} : DataW H → Nat
  | .lit (.string bytes) => bytes.length + 1
  | .lit _ => 1
  | .nil => 1
  | .ptr d => uptoBulk d + 1
  | .slice elems spare => uptoBulkAll elems + uptoBulkAll spare + 1
  | .agg parts => uptoBulkAll parts + 1
  | .iface _ d => uptoBulk d + 1
  | .map entries => uptoBulkEntries entries + 1
  | .held _ => 1
def uptoBulkAll {H : Type} : List (DataW H) → Nat
  | [] => 0
  | d :: r => uptoBulk d + uptoBulkAll r
def uptoBulkEntries {H : Type} : List (Lit × DataW H) → Nat
  | [] => 0
  | x :: r => uptoBulkEntry x + uptoBulkEntries r
def uptoBulkEntry {H : Type} : Lit × DataW H → Nat
  | (.string bytes, d) => bytes.length + uptoBulk d + 1
  | (_, d) => uptoBulk d + 1
 end
def uptoSmall : (H : Type) → List (DataW H) → Bool := fun _ ds => decide (uptoBulkAll ds ≤ 1048576)
def OpenSpec.upto (s : _root_.Go.ChangeSpec) : _root_.Go.OpenSpec := { _root_.Go.OpenSpec.ofChange s with cond := some uptoSmall }

/-- 'afterglowlaw16.SegLays', WHERE WHAT IT READS IS OF BULK AT MOST 1048576: true; the input reads as it did. -/
def segLaysUptoRow : OpenClaim := { program := "ytefknfbmphdafaagreat", sum := "65659fca3587cacda0a8014b1bdb4e350f7fb75eeeb677b9dd48b79edbdd9948", func := "afterglow/afterglowlaw16.SegLays", spec := "segLays", inPlace := ["internal/bytealg.IndexByteString", "internal/abi.NoEscape"], unfollowed := true, recurses := true, apart := false, narrowed := true }
def SegLaysUptoSaid : Prop := segLaysUptoRow.holds Tryz.pinned (OpenSpec.upto segLaysSpec)

/-- 'afterglowlaw16.SegEvery', WHERE WHAT IT READS IS OF BULK AT MOST 1048576: true; the input reads as it did. -/
def segEveryUptoRow : OpenClaim := { program := "ytefknfbmphdafaagreat", sum := "65659fca3587cacda0a8014b1bdb4e350f7fb75eeeb677b9dd48b79edbdd9948", func := "afterglow/afterglowlaw16.SegEvery", spec := "segEvery", inPlace := ["internal/bytealg.IndexByteString", "internal/abi.NoEscape"], unfollowed := true, recurses := true, apart := false, narrowed := true }
def SegEveryUptoSaid : Prop := segEveryUptoRow.holds Tryz.pinned (OpenSpec.upto segEverySpec)

/-- 'afterglowlaw16.SegWholes', WHERE WHAT IT READS IS OF BULK AT MOST 1048576: true; the input reads as it did. -/
def segWholesUptoRow : OpenClaim := { program := "ytefknfbmphdafaagreat", sum := "65659fca3587cacda0a8014b1bdb4e350f7fb75eeeb677b9dd48b79edbdd9948", func := "afterglow/afterglowlaw16.SegWholes", spec := "segWholes", inPlace := ["internal/bytealg.IndexByteString", "internal/abi.NoEscape"], unfollowed := true, recurses := true, apart := false, narrowed := true }
def SegWholesUptoSaid : Prop := segWholesUptoRow.holds Tryz.pinned (OpenSpec.upto segWholesSpec)

end Rows
end Go.Proofs.YtefknfbmphdafaaGreat
