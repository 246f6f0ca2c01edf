/-
  No cell of these rows narrows 'for every input' (looked for: loops, veiled, ifaces, maps, wideKeys, modest, calm, conditions, laid).
  DERIVED. THE GIVEN ROWS OF THIS SEAT. 4 by the template 'for every input the law returns true; each argument reads behind the call as it read before'; 0 by the template 'total and deterministic' (their statements: YtcbjdfiikadkbaaTotals.lean).
  GIVEN WITH THE SEED: the statements are not yours to turn. If you find one false, say at which input.
  Laid BY PROGRAM, IN A SANDBOX (cutbox-rows.mjs): the forced cells as the released guide's own fill.sh prints them over the translation e1403384247fb3c3… (all of the seat's roots in one cut). By AI agents, Wed Nov 11 2026. No macro, syntax, notation, axiom, sorry.
-/
import Derived.Test.YtcbjdfiikadkbaaChecked
import GoSem.Claim
import GoSem.ClaimJoined
import GoSem.ClaimMapViews
import Derived.JoinedTies
import Derived.KernelRfl
namespace Go.Proofs.Ytcbjdfiikadkbaa
/- THE CELL 'sum', in the pinned program and in every row, IS THE sha256 OF THE DUMP (.gsa) THAT YtcbjdfiikadkbaaProg.lean LOADS. Nothing in Lean hashes anything: it is a label: what it is worth is what the hold of that sum in a sandbox is worth. -/
noncomputable def Try.pinned : Pinned := { name := "ytcbjdfiikadkbaa", sum := "e1403384247fb3c3e9d3ad29c3b782038a5a08041ecb04ecddc0702be7ac78a0", checked := Try.checked }
namespace Rows
def none {H : Type} : Left H := { results := [], args := [] }

/-- 'gafferlaw03.NetOnce': WHATEVER THE INPUT: true; the input reads as it did. -/
def netOnceSpec : ChangeSpec := { name := "netOnce", fn := fun _ => fun
  | [d] => { results := [.lit (.bool true)], args := [d] }
  | _ => none }
def netOnceRow : OpenClaim := { program := "ytcbjdfiikadkbaa", sum := "e1403384247fb3c3e9d3ad29c3b782038a5a08041ecb04ecddc0702be7ac78a0", func := "gaffer/gafferlaw03.NetOnce", spec := "netOnce", apart := false }
def NetOnceSaid : Prop := netOnceRow.holds Try.pinned (OpenSpec.ofChange netOnceSpec)

/-- ITS FALSE NEIGHBOUR: 'it returns false'. Refute it at one input. -/
def netOnceWrong : ChangeSpec := { name := "netOnce", fn := fun _ => fun
  | [d] => { results := [.lit (.bool false)], args := [d] }
  | _ => none }
def NetOnceWrongFalsely : Prop := netOnceRow.holds Try.pinned (OpenSpec.ofChange netOnceWrong)

/-- 'gafferlaw03.NetLines': WHATEVER THE INPUT: true; the input reads as it did. -/
def netLinesSpec : ChangeSpec := { name := "netLines", fn := fun _ => fun
  | [d1, d2] => { results := [.lit (.bool true)], args := [d1, d2] }
  | _ => none }
def netLinesRow : OpenClaim := { program := "ytcbjdfiikadkbaa", sum := "e1403384247fb3c3e9d3ad29c3b782038a5a08041ecb04ecddc0702be7ac78a0", func := "gaffer/gafferlaw03.NetLines", spec := "netLines", apart := false }
def NetLinesSaid : Prop := netLinesRow.holds Try.pinned (OpenSpec.ofChange netLinesSpec)

/-- ITS FALSE NEIGHBOUR: 'it returns false'. Refute it at one input. -/
def netLinesWrong : ChangeSpec := { name := "netLines", fn := fun _ => fun
  | [d1, d2] => { results := [.lit (.bool false)], args := [d1, d2] }
  | _ => none }
def NetLinesWrongFalsely : Prop := netLinesRow.holds Try.pinned (OpenSpec.ofChange netLinesWrong)

/-- 'gafferlaw03.NetGoes': WHATEVER THE INPUT: true; the input reads as it did. -/
def netGoesSpec : ChangeSpec := { name := "netGoes", fn := fun _ => fun
  | [d1, d2, d3] => { results := [.lit (.bool true)], args := [d1, d2, d3] }
  | _ => none }
def netGoesRow : OpenClaim := { program := "ytcbjdfiikadkbaa", sum := "e1403384247fb3c3e9d3ad29c3b782038a5a08041ecb04ecddc0702be7ac78a0", func := "gaffer/gafferlaw03.NetGoes", spec := "netGoes", unfollowed := true, recurses := true, apart := false }
def NetGoesSaid : Prop := netGoesRow.holds Try.pinned (OpenSpec.ofChange netGoesSpec)

/-- ITS FALSE NEIGHBOUR: 'it returns false'. Refute it at one input. -/
def netGoesWrong : ChangeSpec := { name := "netGoes", fn := fun _ => fun
  | [d1, d2, d3] => { results := [.lit (.bool false)], args := [d1, d2, d3] }
  | _ => none }
def NetGoesWrongFalsely : Prop := netGoesRow.holds Try.pinned (OpenSpec.ofChange netGoesWrong)

/-- 'gafferlaw03.NetActs': WHATEVER THE INPUT: true; the input reads as it did. -/
def netActsSpec : ChangeSpec := { name := "netActs", fn := fun _ => fun
  | [d] => { results := [.lit (.bool true)], args := [d] }
  | _ => none }
def netActsRow : OpenClaim := { program := "ytcbjdfiikadkbaa", sum := "e1403384247fb3c3e9d3ad29c3b782038a5a08041ecb04ecddc0702be7ac78a0", func := "gaffer/gafferlaw03.NetActs", spec := "netActs", unfollowed := true, recurses := true, apart := false }
def NetActsSaid : Prop := netActsRow.holds Try.pinned (OpenSpec.ofChange netActsSpec)

/-- ITS FALSE NEIGHBOUR: 'it returns false'. Refute it at one input. -/
def netActsWrong : ChangeSpec := { name := "netActs", fn := fun _ => fun
  | [d] => { results := [.lit (.bool false)], args := [d] }
  | _ => none }
def NetActsWrongFalsely : Prop := netActsRow.holds Try.pinned (OpenSpec.ofChange netActsWrong)

/- THE SECOND FORM. 'bulk': how many values and letters a reading holds, each counted each time it is reached (what is shared counts as often as it is met; a slice's spare places count too). A statement '..UptoSaid' is the law's where the arguments, and the package variables that the reading takes, are together of bulk at most 1048576: NARROWER than '..Said'. Prove '..Said' where nothing that the law and all that it calls make is longer than what came in: it says more and counts as full. Else prove '..UptoSaid'. A law counts once. -/
mutual
def uptoBulk {H : Type} : DataW H → Nat
  | .lit (.string bytes) => bytes.length + 1
  | .lit _ => 1
  | .nil => 1
  | .ptr d => uptoBulk d + 1
  | .slice elems spare => uptoBulkAll elems + uptoBulkAll spare + 1
  | .agg parts => uptoBulkAll parts + 1
  | .iface _ d => uptoBulk d + 1
  | .map entries => uptoBulkEntries entries + 1
  | .held _ => 1
def uptoBulkAll {H : Type} : List (DataW H) → Nat
  | [] => 0
  | d :: r => uptoBulk d + uptoBulkAll r
def uptoBulkEntries {H : Type} : List (Lit × DataW H) → Nat
  | [] => 0
  | x :: r => uptoBulkEntry x + uptoBulkEntries r
def uptoBulkEntry {H : Type} : Lit × DataW H → Nat
  | (.string bytes, d) => bytes.length + uptoBulk d + 1
  | (_, d) => uptoBulk d + 1
 end
def uptoSmall : (H : Type) → List (DataW H) → Bool := fun _ ds => decide (uptoBulkAll ds ≤ 1048576)
def OpenSpec.upto (s : _root_.Go.ChangeSpec) : _root_.Go.OpenSpec := { _root_.Go.OpenSpec.ofChange s with cond := some uptoSmall }

/-- 'gafferlaw03.NetOnce', WHERE WHAT IT READS IS OF BULK AT MOST 1048576: true; the input reads as it did. -/
def netOnceUptoRow : OpenClaim := { program := "ytcbjdfiikadkbaa", sum := "e1403384247fb3c3e9d3ad29c3b782038a5a08041ecb04ecddc0702be7ac78a0", func := "gaffer/gafferlaw03.NetOnce", spec := "netOnce", apart := false, narrowed := true }
def NetOnceUptoSaid : Prop := netOnceUptoRow.holds Try.pinned (OpenSpec.upto netOnceSpec)

/-- 'gafferlaw03.NetLines', WHERE WHAT IT READS IS OF BULK AT MOST 1048576: true; the input reads as it did. -/
def netLinesUptoRow : OpenClaim := { program := "ytcbjdfiikadkbaa", sum := "e1403384247fb3c3e9d3ad29c3b782038a5a08041ecb04ecddc0702be7ac78a0", func := "gaffer/gafferlaw03.NetLines", spec := "netLines", apart := false, narrowed := true }
def NetLinesUptoSaid : Prop := netLinesUptoRow.holds Try.pinned (OpenSpec.upto netLinesSpec)

/-- 'gafferlaw03.NetGoes', WHERE WHAT IT READS IS OF BULK AT MOST 1048576: true; the input reads as it did. -/
def netGoesUptoRow : OpenClaim := { program := "ytcbjdfiikadkbaa", sum := "e1403384247fb3c3e9d3ad29c3b782038a5a08041ecb04ecddc0702be7ac78a0", func := "gaffer/gafferlaw03.NetGoes", spec := "netGoes", unfollowed := true, recurses := true, apart := false, narrowed := true }
def NetGoesUptoSaid : Prop := netGoesUptoRow.holds Try.pinned (OpenSpec.upto netGoesSpec)

/-- 'gafferlaw03.NetActs', WHERE WHAT IT READS IS OF BULK AT MOST 1048576: true; the input reads as it did. -/
def netActsUptoRow : OpenClaim := { program := "ytcbjdfiikadkbaa", sum := "e1403384247fb3c3e9d3ad29c3b782038a5a08041ecb04ecddc0702be7ac78a0", func := "gaffer/gafferlaw03.NetActs", spec := "netActs", unfollowed := true, recurses := true, apart := false, narrowed := true }
def NetActsUptoSaid : Prop := netActsUptoRow.holds Try.pinned (OpenSpec.upto netActsSpec)

end Rows
end Go.Proofs.Ytcbjdfiikadkbaa
