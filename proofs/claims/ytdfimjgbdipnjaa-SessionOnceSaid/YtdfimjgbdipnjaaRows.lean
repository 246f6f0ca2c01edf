/-
  No cell of these rows narrows 'for every input' (looked for: loops, veiled, ifaces, maps, wideKeys, modest, calm, conditions, laid).
  DERIVED. THE GIVEN ROWS OF THIS SEAT. 5 by the template 'for every input the law returns true; each argument reads behind the call as it read before'; 0 by the template 'total and deterministic' (their statements: YtdfimjgbdipnjaaTotals.lean).
  GIVEN WITH THE SEED: the statements are not yours to turn. If you find one false, say at which input.
  Laid BY PROGRAM, IN A SANDBOX (cutbox-rows.mjs): the forced cells as the released guide's own fill.sh prints them over the translation 3ee6452f7dd4a46b… (all of the seat's roots in one cut). By AI agents, Wed Nov 11 2026. No macro, syntax, notation, axiom, sorry.
-/
import Derived.Test.YtdfimjgbdipnjaaChecked
import GoSem.Claim
import GoSem.ClaimJoined
import GoSem.ClaimMapViews
import Derived.JoinedTies
import Derived.KernelRfl
namespace Go.Proofs.Ytdfimjgbdipnjaa
/- THE CELL 'sum', in the pinned program and in every row, IS THE sha256 OF THE DUMP (.gsa) THAT YtdfimjgbdipnjaaProg.lean LOADS. Nothing in Lean hashes anything: it is a label: what it is worth is what the hold of that sum in a sandbox is worth. -/
noncomputable def Try.pinned : Pinned := { name := "ytdfimjgbdipnjaa", sum := "3ee6452f7dd4a46b0ea2a0b9c8c8d95e6446f57b6d936c5bc81285f8dac95b5b", checked := Try.checked }
namespace Rows
def none {H : Type} : Left H := { results := [], args := [] }

/-- 'gafferlaw13.SessionAnew': WHATEVER THE INPUT: true; the input reads as it did. -/
def sessionAnewSpec : ChangeSpec := { name := "sessionAnew", fn := fun _ => fun
  | [d1, d2, d3] => { results := [.lit (.bool true)], args := [d1, d2, d3] }
  | _ => none }
def sessionAnewRow : OpenClaim := { program := "ytdfimjgbdipnjaa", sum := "3ee6452f7dd4a46b0ea2a0b9c8c8d95e6446f57b6d936c5bc81285f8dac95b5b", func := "gaffer/gafferlaw13.SessionAnew", spec := "sessionAnew", apart := false }
def SessionAnewSaid : Prop := sessionAnewRow.holds Try.pinned (OpenSpec.ofChange sessionAnewSpec)

/-- ITS FALSE NEIGHBOUR: 'it returns false'. Refute it at one input. -/
def sessionAnewWrong : ChangeSpec := { name := "sessionAnew", fn := fun _ => fun
  | [d1, d2, d3] => { results := [.lit (.bool false)], args := [d1, d2, d3] }
  | _ => none }
def SessionAnewWrongFalsely : Prop := sessionAnewRow.holds Try.pinned (OpenSpec.ofChange sessionAnewWrong)

/-- 'gafferlaw13.SessionCalls': WHATEVER THE INPUT: true; the input reads as it did. -/
def sessionCallsSpec : ChangeSpec := { name := "sessionCalls", fn := fun _ => fun
  | [d1, d2] => { results := [.lit (.bool true)], args := [d1, d2] }
  | _ => none }
def sessionCallsRow : OpenClaim := { program := "ytdfimjgbdipnjaa", sum := "3ee6452f7dd4a46b0ea2a0b9c8c8d95e6446f57b6d936c5bc81285f8dac95b5b", func := "gaffer/gafferlaw13.SessionCalls", spec := "sessionCalls", apart := false }
def SessionCallsSaid : Prop := sessionCallsRow.holds Try.pinned (OpenSpec.ofChange sessionCallsSpec)

/-- ITS FALSE NEIGHBOUR: 'it returns false'. Refute it at one input. -/
def sessionCallsWrong : ChangeSpec := { name := "sessionCalls", fn := fun _ => fun
  | [d1, d2] => { results := [.lit (.bool false)], args := [d1, d2] }
  | _ => none }
def SessionCallsWrongFalsely : Prop := sessionCallsRow.holds Try.pinned (OpenSpec.ofChange sessionCallsWrong)

/-- 'gafferlaw13.SessionSlots': WHATEVER THE INPUT: true; the input reads as it did. -/
def sessionSlotsSpec : ChangeSpec := { name := "sessionSlots", fn := fun _ => fun
  | [d1, d2] => { results := [.lit (.bool true)], args := [d1, d2] }
  | _ => none }
def sessionSlotsRow : OpenClaim := { program := "ytdfimjgbdipnjaa", sum := "3ee6452f7dd4a46b0ea2a0b9c8c8d95e6446f57b6d936c5bc81285f8dac95b5b", func := "gaffer/gafferlaw13.SessionSlots", spec := "sessionSlots", apart := false }
def SessionSlotsSaid : Prop := sessionSlotsRow.holds Try.pinned (OpenSpec.ofChange sessionSlotsSpec)

/-- ITS FALSE NEIGHBOUR: 'it returns false'. Refute it at one input. -/
def sessionSlotsWrong : ChangeSpec := { name := "sessionSlots", fn := fun _ => fun
  | [d1, d2] => { results := [.lit (.bool false)], args := [d1, d2] }
  | _ => none }
def SessionSlotsWrongFalsely : Prop := sessionSlotsRow.holds Try.pinned (OpenSpec.ofChange sessionSlotsWrong)

/-- 'gafferlaw13.SessionOnce': WHATEVER THE INPUT: true; the input reads as it did. -/
def sessionOnceSpec : ChangeSpec := { name := "sessionOnce", fn := fun _ => fun
  | [d] => { results := [.lit (.bool true)], args := [d] }
  | _ => none }
def sessionOnceRow : OpenClaim := { program := "ytdfimjgbdipnjaa", sum := "3ee6452f7dd4a46b0ea2a0b9c8c8d95e6446f57b6d936c5bc81285f8dac95b5b", func := "gaffer/gafferlaw13.SessionOnce", spec := "sessionOnce", apart := false }
def SessionOnceSaid : Prop := sessionOnceRow.holds Try.pinned (OpenSpec.ofChange sessionOnceSpec)

/-- ITS FALSE NEIGHBOUR: 'it returns false'. Refute it at one input. -/
def sessionOnceWrong : ChangeSpec := { name := "sessionOnce", fn := fun _ => fun
  | [d] => { results := [.lit (.bool false)], args := [d] }
  | _ => none }
def SessionOnceWrongFalsely : Prop := sessionOnceRow.holds Try.pinned (OpenSpec.ofChange sessionOnceWrong)

/-- 'gafferlaw13.SessionRows': WHATEVER THE INPUT: true; the input reads as it did. -/
def sessionRowsSpec : ChangeSpec := { name := "sessionRows", fn := fun _ => fun
  | [d1, d2] => { results := [.lit (.bool true)], args := [d1, d2] }
  | _ => none }
def sessionRowsRow : OpenClaim := { program := "ytdfimjgbdipnjaa", sum := "3ee6452f7dd4a46b0ea2a0b9c8c8d95e6446f57b6d936c5bc81285f8dac95b5b", func := "gaffer/gafferlaw13.SessionRows", spec := "sessionRows", unfollowed := true, recurses := true, apart := false }
def SessionRowsSaid : Prop := sessionRowsRow.holds Try.pinned (OpenSpec.ofChange sessionRowsSpec)

/-- ITS FALSE NEIGHBOUR: 'it returns false'. Refute it at one input. -/
def sessionRowsWrong : ChangeSpec := { name := "sessionRows", fn := fun _ => fun
  | [d1, d2] => { results := [.lit (.bool false)], args := [d1, d2] }
  | _ => none }
def SessionRowsWrongFalsely : Prop := sessionRowsRow.holds Try.pinned (OpenSpec.ofChange sessionRowsWrong)

/- THE SECOND FORM. 'bulk': how many values and letters a reading holds, each counted each time it is reached (what is shared counts as often as it is met; a slice's spare places count too). A statement '..UptoSaid' is the law's where the arguments, and the package variables that the reading takes, are together of bulk at most 1048576: NARROWER than '..Said'. Prove '..Said' where nothing that the law and all that it calls make is longer than what came in: it says more and counts as full. Else prove '..UptoSaid'. A law counts once. -/
mutual
def uptoBulk {H : Type} : DataW H → Nat
  | .lit (.string bytes) => bytes.length + 1
  | .lit _ => 1
  | .nil => 1
  | .ptr d => uptoBulk d + 1
  | .slice elems spare => uptoBulkAll elems + uptoBulkAll spare + 1
  | .agg parts => uptoBulkAll parts + 1
  | .iface _ d => uptoBulk d + 1
  | .map entries => uptoBulkEntries entries + 1
  | .held _ => 1
def uptoBulkAll {H : Type} : List (DataW H) → Nat
  | [] => 0
  | d :: r => uptoBulk d + uptoBulkAll r
def uptoBulkEntries {H : Type} : List (Lit × DataW H) → Nat
  | [] => 0
  | x :: r => uptoBulkEntry x + uptoBulkEntries r
def uptoBulkEntry {H : Type} : Lit × DataW H → Nat
  | (.string bytes, d) => bytes.length + uptoBulk d + 1
  | (_, d) => uptoBulk d + 1
 end
def uptoSmall : (H : Type) → List (DataW H) → Bool := fun _ ds => decide (uptoBulkAll ds ≤ 1048576)
def OpenSpec.upto (s : _root_.Go.ChangeSpec) : _root_.Go.OpenSpec := { _root_.Go.OpenSpec.ofChange s with cond := some uptoSmall }

/-- 'gafferlaw13.SessionAnew', WHERE WHAT IT READS IS OF BULK AT MOST 1048576: true; the input reads as it did. -/
def sessionAnewUptoRow : OpenClaim := { program := "ytdfimjgbdipnjaa", sum := "3ee6452f7dd4a46b0ea2a0b9c8c8d95e6446f57b6d936c5bc81285f8dac95b5b", func := "gaffer/gafferlaw13.SessionAnew", spec := "sessionAnew", apart := false, narrowed := true }
def SessionAnewUptoSaid : Prop := sessionAnewUptoRow.holds Try.pinned (OpenSpec.upto sessionAnewSpec)

/-- 'gafferlaw13.SessionCalls', WHERE WHAT IT READS IS OF BULK AT MOST 1048576: true; the input reads as it did. -/
def sessionCallsUptoRow : OpenClaim := { program := "ytdfimjgbdipnjaa", sum := "3ee6452f7dd4a46b0ea2a0b9c8c8d95e6446f57b6d936c5bc81285f8dac95b5b", func := "gaffer/gafferlaw13.SessionCalls", spec := "sessionCalls", apart := false, narrowed := true }
def SessionCallsUptoSaid : Prop := sessionCallsUptoRow.holds Try.pinned (OpenSpec.upto sessionCallsSpec)

/-- 'gafferlaw13.SessionSlots', WHERE WHAT IT READS IS OF BULK AT MOST 1048576: true; the input reads as it did. -/
def sessionSlotsUptoRow : OpenClaim := { program := "ytdfimjgbdipnjaa", sum := "3ee6452f7dd4a46b0ea2a0b9c8c8d95e6446f57b6d936c5bc81285f8dac95b5b", func := "gaffer/gafferlaw13.SessionSlots", spec := "sessionSlots", apart := false, narrowed := true }
def SessionSlotsUptoSaid : Prop := sessionSlotsUptoRow.holds Try.pinned (OpenSpec.upto sessionSlotsSpec)

/-- 'gafferlaw13.SessionOnce', WHERE WHAT IT READS IS OF BULK AT MOST 1048576: true; the input reads as it did. -/
def sessionOnceUptoRow : OpenClaim := { program := "ytdfimjgbdipnjaa", sum := "3ee6452f7dd4a46b0ea2a0b9c8c8d95e6446f57b6d936c5bc81285f8dac95b5b", func := "gaffer/gafferlaw13.SessionOnce", spec := "sessionOnce", apart := false, narrowed := true }
def SessionOnceUptoSaid : Prop := sessionOnceUptoRow.holds Try.pinned (OpenSpec.upto sessionOnceSpec)

/-- 'gafferlaw13.SessionRows', WHERE WHAT IT READS IS OF BULK AT MOST 1048576: true; the input reads as it did. -/
def sessionRowsUptoRow : OpenClaim := { program := "ytdfimjgbdipnjaa", sum := "3ee6452f7dd4a46b0ea2a0b9c8c8d95e6446f57b6d936c5bc81285f8dac95b5b", func := "gaffer/gafferlaw13.SessionRows", spec := "sessionRows", unfollowed := true, recurses := true, apart := false, narrowed := true }
def SessionRowsUptoSaid : Prop := sessionRowsUptoRow.holds Try.pinned (OpenSpec.upto sessionRowsSpec)

end Rows
end Go.Proofs.Ytdfimjgbdipnjaa
