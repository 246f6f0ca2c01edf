/-
  No cell of these rows narrows 'for every input' (looked for: loops, veiled, ifaces, maps, wideKeys, modest, calm, conditions, laid).
  DERIVED. THE GIVEN ROWS OF THIS SEAT. 3 by the template 'for every input the law returns true; each argument reads behind the call as it read before'; 0 by the template 'total and deterministic' (their statements: YtjejogkmhlbegaaTotals.lean).
  GIVEN WITH THE SEED: the statements are not yours to turn. If you find one false, say at which input.
  Laid BY PROGRAM, IN A SANDBOX (cutbox-rows.mjs): the forced cells as the released guide's own fill.sh prints them over the translation 7bce1258a3007e34… (all of the seat's roots in one cut). By AI agents, Wed Nov 11 2026. No macro, syntax, notation, axiom, sorry.
-/
import Derived.Test.YtjejogkmhlbegaaChecked
import GoSem.Claim
import GoSem.ClaimJoined
import GoSem.ClaimMapViews
import Derived.JoinedTies
import Derived.KernelRfl
namespace Go.Proofs.Ytjejogkmhlbegaa
/- THE CELL 'sum', in the pinned program and in every row, IS THE sha256 OF THE DUMP (.gsa) THAT YtjejogkmhlbegaaProg.lean LOADS. Nothing in Lean hashes anything: it is a label: what it is worth is what the hold of that sum in a sandbox is worth. -/
noncomputable def Try.pinned : Pinned := { name := "ytjejogkmhlbegaa", sum := "7bce1258a3007e346cf3510fa51bd588ac791c9095fdf7baff21cf33760eb9e9", checked := Try.checked }
namespace Rows
def none {H : Type} : Left H := { results := [], args := [] }

/-- 'gafferlaw15.StitchWhole': WHATEVER THE INPUT: true; the input reads as it did. -/
def stitchWholeSpec : ChangeSpec := { name := "stitchWhole", fn := fun _ => fun
  | [d1, d2, d3] => { results := [.lit (.bool true)], args := [d1, d2, d3] }
  | _ => none }
def stitchWholeRow : OpenClaim := { program := "ytjejogkmhlbegaa", sum := "7bce1258a3007e346cf3510fa51bd588ac791c9095fdf7baff21cf33760eb9e9", func := "gaffer/gafferlaw15.StitchWhole", spec := "stitchWhole", unfollowed := true, recurses := true, apart := false }
def StitchWholeSaid : Prop := stitchWholeRow.holds Try.pinned (OpenSpec.ofChange stitchWholeSpec)

/-- ITS FALSE NEIGHBOUR: 'it returns false'. Refute it at one input. -/
def stitchWholeWrong : ChangeSpec := { name := "stitchWhole", fn := fun _ => fun
  | [d1, d2, d3] => { results := [.lit (.bool false)], args := [d1, d2, d3] }
  | _ => none }
def StitchWholeWrongFalsely : Prop := stitchWholeRow.holds Try.pinned (OpenSpec.ofChange stitchWholeWrong)

/-- 'gafferlaw15.StitchTakes': WHATEVER THE INPUT: true; the input reads as it did. -/
def stitchTakesSpec : ChangeSpec := { name := "stitchTakes", fn := fun _ => fun
  | [d1, d2, d3] => { results := [.lit (.bool true)], args := [d1, d2, d3] }
  | _ => none }
def stitchTakesRow : OpenClaim := { program := "ytjejogkmhlbegaa", sum := "7bce1258a3007e346cf3510fa51bd588ac791c9095fdf7baff21cf33760eb9e9", func := "gaffer/gafferlaw15.StitchTakes", spec := "stitchTakes", inPlace := ["maps.clone"], unfollowed := true, recurses := true, apart := false }
def StitchTakesSaid : Prop := stitchTakesRow.holds Try.pinned (OpenSpec.ofChange stitchTakesSpec)

/-- ITS FALSE NEIGHBOUR: 'it returns false'. Refute it at one input. -/
def stitchTakesWrong : ChangeSpec := { name := "stitchTakes", fn := fun _ => fun
  | [d1, d2, d3] => { results := [.lit (.bool false)], args := [d1, d2, d3] }
  | _ => none }
def StitchTakesWrongFalsely : Prop := stitchTakesRow.holds Try.pinned (OpenSpec.ofChange stitchTakesWrong)

/-- 'gafferlaw15.StitchTwice': WHATEVER THE INPUT: true; the input reads as it did. -/
def stitchTwiceSpec : ChangeSpec := { name := "stitchTwice", fn := fun _ => fun
  | [d1, d2, d3] => { results := [.lit (.bool true)], args := [d1, d2, d3] }
  | _ => none }
def stitchTwiceRow : OpenClaim := { program := "ytjejogkmhlbegaa", sum := "7bce1258a3007e346cf3510fa51bd588ac791c9095fdf7baff21cf33760eb9e9", func := "gaffer/gafferlaw15.StitchTwice", spec := "stitchTwice", inPlace := ["maps.clone"], unfollowed := true, recurses := true, apart := false }
def StitchTwiceSaid : Prop := stitchTwiceRow.holds Try.pinned (OpenSpec.ofChange stitchTwiceSpec)

/-- ITS FALSE NEIGHBOUR: 'it returns false'. Refute it at one input. -/
def stitchTwiceWrong : ChangeSpec := { name := "stitchTwice", fn := fun _ => fun
  | [d1, d2, d3] => { results := [.lit (.bool false)], args := [d1, d2, d3] }
  | _ => none }
def StitchTwiceWrongFalsely : Prop := stitchTwiceRow.holds Try.pinned (OpenSpec.ofChange stitchTwiceWrong)

/- THE SECOND FORM. 'bulk': how many values and letters a reading holds, each counted each time it is reached (what is shared counts as often as it is met; a slice's spare places count too). A statement '..UptoSaid' is the law's where the arguments, and the package variables that the reading takes, are together of bulk at most 1048576: NARROWER than '..Said'. Prove '..Said' where nothing that the law and all that it calls make is longer than what came in: it says more and counts as full. Else prove '..UptoSaid'. A law counts once. -/
mutual
def uptoBulk {H : Type} : DataW H → Nat
  | .lit (.string bytes) => bytes.length + 1
  | .lit _ => 1
  | .nil => 1
  | .ptr d => uptoBulk d + 1
  | .slice elems spare => uptoBulkAll elems + uptoBulkAll spare + 1
  | .agg parts => uptoBulkAll parts + 1
  | .iface _ d => uptoBulk d + 1
  | .map entries => uptoBulkEntries entries + 1
  | .held _ => 1
def uptoBulkAll {H : Type} : List (DataW H) → Nat
  | [] => 0
  | d :: r => uptoBulk d + uptoBulkAll r
def uptoBulkEntries {H : Type} : List (Lit × DataW H) → Nat
  | [] => 0
  | x :: r => uptoBulkEntry x + uptoBulkEntries r
def uptoBulkEntry {H : Type} : Lit × DataW H → Nat
  | (.string bytes, d) => bytes.length + uptoBulk d + 1
  | (_, d) => uptoBulk d + 1
 end
def uptoSmall : (H : Type) → List (DataW H) → Bool := fun _ ds => decide (uptoBulkAll ds ≤ 1048576)
def OpenSpec.upto (s : _root_.Go.ChangeSpec) : _root_.Go.OpenSpec := { _root_.Go.OpenSpec.ofChange s with cond := some uptoSmall }

/-- 'gafferlaw15.StitchWhole', WHERE WHAT IT READS IS OF BULK AT MOST 1048576: true; the input reads as it did. -/
def stitchWholeUptoRow : OpenClaim := { program := "ytjejogkmhlbegaa", sum := "7bce1258a3007e346cf3510fa51bd588ac791c9095fdf7baff21cf33760eb9e9", func := "gaffer/gafferlaw15.StitchWhole", spec := "stitchWhole", unfollowed := true, recurses := true, apart := false, narrowed := true }
def StitchWholeUptoSaid : Prop := stitchWholeUptoRow.holds Try.pinned (OpenSpec.upto stitchWholeSpec)

/-- 'gafferlaw15.StitchTakes', WHERE WHAT IT READS IS OF BULK AT MOST 1048576: true; the input reads as it did. -/
def stitchTakesUptoRow : OpenClaim := { program := "ytjejogkmhlbegaa", sum := "7bce1258a3007e346cf3510fa51bd588ac791c9095fdf7baff21cf33760eb9e9", func := "gaffer/gafferlaw15.StitchTakes", spec := "stitchTakes", inPlace := ["maps.clone"], unfollowed := true, recurses := true, apart := false, narrowed := true }
def StitchTakesUptoSaid : Prop := stitchTakesUptoRow.holds Try.pinned (OpenSpec.upto stitchTakesSpec)

/-- 'gafferlaw15.StitchTwice', WHERE WHAT IT READS IS OF BULK AT MOST 1048576: true; the input reads as it did. -/
def stitchTwiceUptoRow : OpenClaim := { program := "ytjejogkmhlbegaa", sum := "7bce1258a3007e346cf3510fa51bd588ac791c9095fdf7baff21cf33760eb9e9", func := "gaffer/gafferlaw15.StitchTwice", spec := "stitchTwice", inPlace := ["maps.clone"], unfollowed := true, recurses := true, apart := false, narrowed := true }
def StitchTwiceUptoSaid : Prop := stitchTwiceUptoRow.holds Try.pinned (OpenSpec.upto stitchTwiceSpec)

end Rows
end Go.Proofs.Ytjejogkmhlbegaa
