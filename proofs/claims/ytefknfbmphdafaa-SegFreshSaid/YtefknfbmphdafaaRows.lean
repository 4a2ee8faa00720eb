/-
  No cell of these rows narrows 'for every input' (looked for: loops, veiled, ifaces, maps, wideKeys, modest, calm, conditions, laid).
  DERIVED. THE GIVEN ROWS OF THIS SEAT. 2 by the template 'for every input the law returns true; each argument reads behind the call as it read before'; 0 by the template 'total and deterministic' (their statements: YtefknfbmphdafaaTotals.lean).
  GIVEN WITH THE SEED: the statements are not yours to turn. If you find one false, say at which input.
  Laid BY PROGRAM, IN A SANDBOX (cutbox-rows.mjs): the forced cells as the released guide's own fill.sh prints them over the translation 7155b959788f9478… (all of the seat's roots in one cut). By AI agents, Wed Nov 11 2026. No macro, syntax, notation, axiom, sorry.
-/
import Derived.Test.YtefknfbmphdafaaChecked
import GoSem.Claim
import GoSem.ClaimJoined
import GoSem.ClaimMapViews
import Derived.JoinedTies
import Derived.KernelRfl
namespace Go.Proofs.Ytefknfbmphdafaa
/- THE CELL 'sum', in the pinned program and in every row, IS THE sha256 OF THE DUMP (.gsa) THAT YtefknfbmphdafaaProg.lean LOADS. Nothing in Lean hashes anything: it is a label: what it is worth is what the hold of that sum in a sandbox is worth. -/
noncomputable def Try.pinned : Pinned := { name := "ytefknfbmphdafaa", sum := "7155b959788f9478c344a8bdddfc737da410b41eeed39dd40e508922754eb3c4", checked := Try.checked }
namespace Rows
def none {H : Type} : Left H := { results := [], args := [] }

/-- 'afterglowlaw16.SegNames': WHATEVER THE INPUT: true; the input reads as it did. -/
def segNamesSpec : ChangeSpec := { name := "segNames", fn := fun _ => fun
  | [d1, d2, d3] => { results := [.lit (.bool true)], args := [d1, d2, d3] }
  | _ => none }
def segNamesRow : OpenClaim := { program := "ytefknfbmphdafaa", sum := "7155b959788f9478c344a8bdddfc737da410b41eeed39dd40e508922754eb3c4", func := "afterglow/afterglowlaw16.SegNames", spec := "segNames", inPlace := ["internal/bytealg.IndexByteString", "internal/abi.NoEscape"], unfollowed := true, recurses := true, apart := false }
def SegNamesSaid : Prop := segNamesRow.holds Try.pinned (OpenSpec.ofChange segNamesSpec)

/-- ITS FALSE NEIGHBOUR: 'it returns false'. Refute it at one input. -/
def segNamesWrong : ChangeSpec := { name := "segNames", fn := fun _ => fun
  | [d1, d2, d3] => { results := [.lit (.bool false)], args := [d1, d2, d3] }
  | _ => none }
def SegNamesWrongFalsely : Prop := segNamesRow.holds Try.pinned (OpenSpec.ofChange segNamesWrong)

/-- 'afterglowlaw16.SegFresh': WHATEVER THE INPUT: true; the input reads as it did. -/
def segFreshSpec : ChangeSpec := { name := "segFresh", fn := fun _ => fun
  | [d] => { results := [.lit (.bool true)], args := [d] }
  | _ => none }
def segFreshRow : OpenClaim := { program := "ytefknfbmphdafaa", sum := "7155b959788f9478c344a8bdddfc737da410b41eeed39dd40e508922754eb3c4", func := "afterglow/afterglowlaw16.SegFresh", spec := "segFresh", inPlace := ["internal/bytealg.IndexByteString", "internal/abi.NoEscape"], unfollowed := true, recurses := true, apart := false }
def SegFreshSaid : Prop := segFreshRow.holds Try.pinned (OpenSpec.ofChange segFreshSpec)

/-- ITS FALSE NEIGHBOUR: 'it returns false'. Refute it at one input. -/
def segFreshWrong : ChangeSpec := { name := "segFresh", fn := fun _ => fun
  | [d] => { results := [.lit (.bool false)], args := [d] }
  | _ => none }
def SegFreshWrongFalsely : Prop := segFreshRow.holds Try.pinned (OpenSpec.ofChange segFreshWrong)

/- THE SECOND FORM. 'bulk': how many values and letters a reading holds, each counted each time it is reached (what is shared counts as often as it is met; a slice's spare places count too). A statement '..UptoSaid' is the law's where the arguments, and the package variables that the reading takes, are together of bulk at most 1048576: NARROWER than '..Said'. Prove '..Said' where nothing that the law and all that it calls make is longer than what came in: it says more and counts as full. Else prove '..UptoSaid'. A law counts once. -/
mutual
def uptoBulk {H : Type} : DataW H → Nat
  | .lit (.string bytes) => bytes.length + 1
  | .lit _ => 1
  | .nil => 1
  | .ptr d => uptoBulk d + 1
  | .slice elems spare => uptoBulkAll elems + uptoBulkAll spare + 1
  | .agg parts => uptoBulkAll parts + 1
  | .iface _ d => uptoBulk d + 1
  | .map entries => uptoBulkEntries entries + 1
  | .held _ => 1
def uptoBulkAll {H : Type} : List (DataW H) → Nat
  | [] => 0
  | d :: r => uptoBulk d + uptoBulkAll r
def uptoBulkEntries {H : Type} : List (Lit × DataW H) → Nat
  | [] => 0
  | x :: r => uptoBulkEntry x + uptoBulkEntries r
def uptoBulkEntry {H : Type} : Lit × DataW H → Nat
  | (.string bytes, d) => bytes.length + uptoBulk d + 1
  | (_, d) => uptoBulk d + 1
 end
def uptoSmall : (H : Type) → List (DataW H) → Bool := fun _ ds => decide (uptoBulkAll ds ≤ 1048576)
def OpenSpec.upto (s : _root_.Go.ChangeSpec) : _root_.Go.OpenSpec := { _root_.Go.OpenSpec.ofChange s with cond := some uptoSmall }

/-- 'afterglowlaw16.SegNames', WHERE WHAT IT READS IS OF BULK AT MOST 1048576: true; the input reads as it did. -/
def segNamesUptoRow : OpenClaim := { program := "ytefknfbmphdafaa", sum := "7155b959788f9478c344a8bdddfc737da410b41eeed39dd40e508922754eb3c4", func := "afterglow/afterglowlaw16.SegNames", spec := "segNames", inPlace := ["internal/bytealg.IndexByteString", "internal/abi.NoEscape"], unfollowed := true, recurses := true, apart := false, narrowed := true }
def SegNamesUptoSaid : Prop := segNamesUptoRow.holds Try.pinned (OpenSpec.upto segNamesSpec)

/-- 'afterglowlaw16.SegFresh', WHERE WHAT IT READS IS OF BULK AT MOST 1048576: true; the input reads as it did. -/
def segFreshUptoRow : OpenClaim := { program := "ytefknfbmphdafaa", sum := "7155b959788f9478c344a8bdddfc737da410b41eeed39dd40e508922754eb3c4", func := "afterglow/afterglowlaw16.SegFresh", spec := "segFresh", inPlace := ["internal/bytealg.IndexByteString", "internal/abi.NoEscape"], unfollowed := true, recurses := true, apart := false, narrowed := true }
def SegFreshUptoSaid : Prop := segFreshUptoRow.holds Try.pinned (OpenSpec.upto segFreshSpec)

end Rows
end Go.Proofs.Ytefknfbmphdafaa
