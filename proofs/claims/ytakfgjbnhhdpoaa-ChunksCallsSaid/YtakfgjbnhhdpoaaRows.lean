/-
  No cell of these rows narrows 'for every input' (looked for: loops, veiled, ifaces, maps, wideKeys, modest, calm, conditions, laid).
  DERIVED. THE GIVEN ROWS OF THIS SEAT. 3 by the template 'for every input the law returns true; each argument reads behind the call as it read before'; 0 by the template 'total and deterministic' (their statements: YtakfgjbnhhdpoaaTotals.lean).
  GIVEN WITH THE SEED: the statements are not yours to turn. If you find one false, say at which input.
  Laid BY PROGRAM, IN A SANDBOX (cutbox-rows.mjs): the forced cells as the released guide's own fill.sh prints them over the translation 7d33ec8132d76bf8… (all of the seat's roots in one cut). By AI agents, Wed Nov 11 2026. No macro, syntax, notation, axiom, sorry.
-/
import Derived.Test.YtakfgjbnhhdpoaaChecked
import GoSem.Claim
import GoSem.ClaimJoined
import GoSem.ClaimMapViews
import Derived.JoinedTies
import Derived.KernelRfl
namespace Go.Proofs.Ytakfgjbnhhdpoaa
/- THE CELL 'sum', in the pinned program and in every row, IS THE sha256 OF THE DUMP (.gsa) THAT YtakfgjbnhhdpoaaProg.lean LOADS. Nothing in Lean hashes anything: it is a label: what it is worth is what the hold of that sum in a sandbox is worth. -/
noncomputable def Try.pinned : Pinned := { name := "ytakfgjbnhhdpoaa", sum := "7d33ec8132d76bf8201fd97f58abdf7ea06208f8cb94c6cac7b2ba9667773033", checked := Try.checked }
namespace Rows
def none {H : Type} : Left H := { results := [], args := [] }

/-- 'gafferlaw14.ChunksWindow': WHATEVER THE INPUT: true; the input reads as it did. -/
def chunksWindowSpec : ChangeSpec := { name := "chunksWindow", fn := fun _ => fun
  | [d1, d2, d3] => { results := [.lit (.bool true)], args := [d1, d2, d3] }
  | _ => none }
def chunksWindowRow : OpenClaim := { program := "ytakfgjbnhhdpoaa", sum := "7d33ec8132d76bf8201fd97f58abdf7ea06208f8cb94c6cac7b2ba9667773033", func := "gaffer/gafferlaw14.ChunksWindow", spec := "chunksWindow", apart := false }
def ChunksWindowSaid : Prop := chunksWindowRow.holds Try.pinned (OpenSpec.ofChange chunksWindowSpec)

/-- ITS FALSE NEIGHBOUR: 'it returns false'. Refute it at one input. -/
def chunksWindowWrong : ChangeSpec := { name := "chunksWindow", fn := fun _ => fun
  | [d1, d2, d3] => { results := [.lit (.bool false)], args := [d1, d2, d3] }
  | _ => none }
def ChunksWindowWrongFalsely : Prop := chunksWindowRow.holds Try.pinned (OpenSpec.ofChange chunksWindowWrong)

/-- 'gafferlaw14.ChunksAnew': WHATEVER THE INPUT: true; the input reads as it did. -/
def chunksAnewSpec : ChangeSpec := { name := "chunksAnew", fn := fun _ => fun
  | [d1, d2, d3] => { results := [.lit (.bool true)], args := [d1, d2, d3] }
  | _ => none }
def chunksAnewRow : OpenClaim := { program := "ytakfgjbnhhdpoaa", sum := "7d33ec8132d76bf8201fd97f58abdf7ea06208f8cb94c6cac7b2ba9667773033", func := "gaffer/gafferlaw14.ChunksAnew", spec := "chunksAnew", apart := false }
def ChunksAnewSaid : Prop := chunksAnewRow.holds Try.pinned (OpenSpec.ofChange chunksAnewSpec)

/-- ITS FALSE NEIGHBOUR: 'it returns false'. Refute it at one input. -/
def chunksAnewWrong : ChangeSpec := { name := "chunksAnew", fn := fun _ => fun
  | [d1, d2, d3] => { results := [.lit (.bool false)], args := [d1, d2, d3] }
  | _ => none }
def ChunksAnewWrongFalsely : Prop := chunksAnewRow.holds Try.pinned (OpenSpec.ofChange chunksAnewWrong)

/-- 'gafferlaw14.ChunksCalls': WHATEVER THE INPUT: true; the input reads as it did. -/
def chunksCallsSpec : ChangeSpec := { name := "chunksCalls", fn := fun _ => fun
  | [d1, d2, d3] => { results := [.lit (.bool true)], args := [d1, d2, d3] }
  | _ => none }
def chunksCallsRow : OpenClaim := { program := "ytakfgjbnhhdpoaa", sum := "7d33ec8132d76bf8201fd97f58abdf7ea06208f8cb94c6cac7b2ba9667773033", func := "gaffer/gafferlaw14.ChunksCalls", spec := "chunksCalls", apart := false }
def ChunksCallsSaid : Prop := chunksCallsRow.holds Try.pinned (OpenSpec.ofChange chunksCallsSpec)

/-- ITS FALSE NEIGHBOUR: 'it returns false'. Refute it at one input. -/
def chunksCallsWrong : ChangeSpec := { name := "chunksCalls", fn := fun _ => fun
  | [d1, d2, d3] => { results := [.lit (.bool false)], args := [d1, d2, d3] }
  | _ => none }
def ChunksCallsWrongFalsely : Prop := chunksCallsRow.holds Try.pinned (OpenSpec.ofChange chunksCallsWrong)

/- THE SECOND FORM. 'bulk': how many values and letters a reading holds, each counted each time it is reached (what is shared counts as often as it is met; a slice's spare places count too). A statement '..UptoSaid' is the law's where the arguments, and the package variables that the reading takes, are together of bulk at most 1048576: NARROWER than '..Said'. Prove '..Said' where nothing that the law and all that it calls make is longer than what came in: it says more and counts as full. Else prove '..UptoSaid'. A law counts once. -/
mutual
def uptoBulk {H : Type} : DataW H → Nat
  | .lit (.string bytes) => bytes.length + 1
  | .lit _ => 1
  | .nil => 1
  | .ptr d => uptoBulk d + 1
  | .slice elems spare => uptoBulkAll elems + uptoBulkAll spare + 1
  | .agg parts => uptoBulkAll parts + 1
  | .iface _ d => uptoBulk d + 1
  | .map entries => uptoBulkEntries entries + 1
  | .held _ => 1
def uptoBulkAll {H : Type} : List (DataW H) → Nat
  | [] => 0
  | d :: r => uptoBulk d + uptoBulkAll r
def uptoBulkEntries {H : Type} : List (Lit × DataW H) → Nat
  | [] => 0
  | x :: r => uptoBulkEntry x + uptoBulkEntries r
def uptoBulkEntry {H : Type} : Lit × DataW H → Nat
  | (.string bytes, d) => bytes.length + uptoBulk d + 1
  | (_, d) => uptoBulk d + 1
 end
def uptoSmall : (H : Type) → List (DataW H) → Bool := fun _ ds => decide (uptoBulkAll ds ≤ 1048576)
def OpenSpec.upto (s : _root_.Go.ChangeSpec) : _root_.Go.OpenSpec := { _root_.Go.OpenSpec.ofChange s with cond := some uptoSmall }

/-- 'gafferlaw14.ChunksWindow', WHERE WHAT IT READS IS OF BULK AT MOST 1048576: true; the input reads as it did. -/
def chunksWindowUptoRow : OpenClaim := { program := "ytakfgjbnhhdpoaa", sum := "7d33ec8132d76bf8201fd97f58abdf7ea06208f8cb94c6cac7b2ba9667773033", func := "gaffer/gafferlaw14.ChunksWindow", spec := "chunksWindow", apart := false, narrowed := true }
def ChunksWindowUptoSaid : Prop := chunksWindowUptoRow.holds Try.pinned (OpenSpec.upto chunksWindowSpec)

/-- 'gafferlaw14.ChunksAnew', WHERE WHAT IT READS IS OF BULK AT MOST 1048576: true; the input reads as it did. -/
def chunksAnewUptoRow : OpenClaim := { program := "ytakfgjbnhhdpoaa", sum := "7d33ec8132d76bf8201fd97f58abdf7ea06208f8cb94c6cac7b2ba9667773033", func := "gaffer/gafferlaw14.ChunksAnew", spec := "chunksAnew", apart := false, narrowed := true }
def ChunksAnewUptoSaid : Prop := chunksAnewUptoRow.holds Try.pinned (OpenSpec.upto chunksAnewSpec)

/-- 'gafferlaw14.ChunksCalls', WHERE WHAT IT READS IS OF BULK AT MOST 1048576: true; the input reads as it did. -/
def chunksCallsUptoRow : OpenClaim := { program := "ytakfgjbnhhdpoaa", sum := "7d33ec8132d76bf8201fd97f58abdf7ea06208f8cb94c6cac7b2ba9667773033", func := "gaffer/gafferlaw14.ChunksCalls", spec := "chunksCalls", apart := false, narrowed := true }
def ChunksCallsUptoSaid : Prop := chunksCallsUptoRow.holds Try.pinned (OpenSpec.upto chunksCallsSpec)

end Rows
end Go.Proofs.Ytakfgjbnhhdpoaa
