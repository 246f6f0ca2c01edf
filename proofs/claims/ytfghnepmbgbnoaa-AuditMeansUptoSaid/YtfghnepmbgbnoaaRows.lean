/-
  No cell of these rows narrows 'for every input' (looked for: loops, veiled, ifaces, maps, wideKeys, modest, calm, conditions, laid).
  DERIVED. THE GIVEN ROWS OF THIS SEAT. 4 by the template 'for every input the law returns true; each argument reads behind the call as it read before'; 0 by the template 'total and deterministic' (their statements: YtfghnepmbgbnoaaTotals.lean).
  GIVEN WITH THE SEED: the statements are not yours to turn. If you find one false, say at which input.
  Laid BY PROGRAM, IN A SANDBOX (cutbox-rows.mjs): the forced cells as the released guide's own fill.sh prints them over the translation 94ea2f8f53a7eee6… (all of the seat's roots in one cut). By AI agents, Wed Nov 11 2026. No macro, syntax, notation, axiom, sorry.
-/
import Derived.Test.YtfghnepmbgbnoaaChecked
import GoSem.Claim
import GoSem.ClaimJoined
import GoSem.ClaimMapViews
import Derived.JoinedTies
import Derived.KernelRfl
namespace Go.Proofs.Ytfghnepmbgbnoaa
/- THE CELL 'sum', in the pinned program and in every row, IS THE sha256 OF THE DUMP (.gsa) THAT YtfghnepmbgbnoaaProg.lean LOADS. Nothing in Lean hashes anything: it is a label: what it is worth is what the hold of that sum in a sandbox is worth. -/
noncomputable def Try.pinned : Pinned := { name := "ytfghnepmbgbnoaa", sum := "94ea2f8f53a7eee69181b709a63b2b634a554851dc9b4daada2479441b3ac34c", checked := Try.checked }
namespace Rows
def none {H : Type} : Left H := { results := [], args := [] }

/-- 'gafferlaw21.AuditBegins': WHATEVER THE INPUT: true; the input reads as it did. -/
def auditBeginsSpec : ChangeSpec := { name := "auditBegins", fn := fun _ => fun
  | [d1, d2] => { results := [.lit (.bool true)], args := [d1, d2] }
  | _ => none }
def auditBeginsRow : OpenClaim := { program := "ytfghnepmbgbnoaa", sum := "94ea2f8f53a7eee69181b709a63b2b634a554851dc9b4daada2479441b3ac34c", func := "gaffer/gafferlaw21.AuditBegins", spec := "auditBegins", unfollowed := true, recurses := true, plainKeys := false, apart := false }
def AuditBeginsSaid : Prop := auditBeginsRow.holds Try.pinned (OpenSpec.ofChange auditBeginsSpec)

/-- ITS FALSE NEIGHBOUR: 'it returns false'. Refute it at one input. -/
def auditBeginsWrong : ChangeSpec := { name := "auditBegins", fn := fun _ => fun
  | [d1, d2] => { results := [.lit (.bool false)], args := [d1, d2] }
  | _ => none }
def AuditBeginsWrongFalsely : Prop := auditBeginsRow.holds Try.pinned (OpenSpec.ofChange auditBeginsWrong)

/-- 'gafferlaw21.AuditPasses': WHATEVER THE INPUT: true; the input reads as it did. -/
def auditPassesSpec : ChangeSpec := { name := "auditPasses", fn := fun _ => fun
  | [d1, d2, d3] => { results := [.lit (.bool true)], args := [d1, d2, d3] }
  | _ => none }
def auditPassesRow : OpenClaim := { program := "ytfghnepmbgbnoaa", sum := "94ea2f8f53a7eee69181b709a63b2b634a554851dc9b4daada2479441b3ac34c", func := "gaffer/gafferlaw21.AuditPasses", spec := "auditPasses", unfollowed := true, recurses := true, plainKeys := false, apart := false }
def AuditPassesSaid : Prop := auditPassesRow.holds Try.pinned (OpenSpec.ofChange auditPassesSpec)

/-- ITS FALSE NEIGHBOUR: 'it returns false'. Refute it at one input. -/
def auditPassesWrong : ChangeSpec := { name := "auditPasses", fn := fun _ => fun
  | [d1, d2, d3] => { results := [.lit (.bool false)], args := [d1, d2, d3] }
  | _ => none }
def AuditPassesWrongFalsely : Prop := auditPassesRow.holds Try.pinned (OpenSpec.ofChange auditPassesWrong)

/-- 'gafferlaw21.AuditMeans': WHATEVER THE INPUT: true; the input reads as it did. -/
def auditMeansSpec : ChangeSpec := { name := "auditMeans", fn := fun _ => fun
  | [d] => { results := [.lit (.bool true)], args := [d] }
  | _ => none }
def auditMeansRow : OpenClaim := { program := "ytfghnepmbgbnoaa", sum := "94ea2f8f53a7eee69181b709a63b2b634a554851dc9b4daada2479441b3ac34c", func := "gaffer/gafferlaw21.AuditMeans", spec := "auditMeans", unfollowed := true, recurses := true, plainKeys := false, apart := false }
def AuditMeansSaid : Prop := auditMeansRow.holds Try.pinned (OpenSpec.ofChange auditMeansSpec)

/-- ITS FALSE NEIGHBOUR: 'it returns false'. Refute it at one input. -/
def auditMeansWrong : ChangeSpec := { name := "auditMeans", fn := fun _ => fun
  | [d] => { results := [.lit (.bool false)], args := [d] }
  | _ => none }
def AuditMeansWrongFalsely : Prop := auditMeansRow.holds Try.pinned (OpenSpec.ofChange auditMeansWrong)

/-- 'gafferlaw21.AuditJudges': WHATEVER THE INPUT: true; the input reads as it did. -/
def auditJudgesSpec : ChangeSpec := { name := "auditJudges", fn := fun _ => fun
  | [d1, d2] => { results := [.lit (.bool true)], args := [d1, d2] }
  | _ => none }
def auditJudgesRow : OpenClaim := { program := "ytfghnepmbgbnoaa", sum := "94ea2f8f53a7eee69181b709a63b2b634a554851dc9b4daada2479441b3ac34c", func := "gaffer/gafferlaw21.AuditJudges", spec := "auditJudges", unfollowed := true, recurses := true, plainKeys := false, apart := false }
def AuditJudgesSaid : Prop := auditJudgesRow.holds Try.pinned (OpenSpec.ofChange auditJudgesSpec)

/-- ITS FALSE NEIGHBOUR: 'it returns false'. Refute it at one input. -/
def auditJudgesWrong : ChangeSpec := { name := "auditJudges", fn := fun _ => fun
  | [d1, d2] => { results := [.lit (.bool false)], args := [d1, d2] }
  | _ => none }
def AuditJudgesWrongFalsely : Prop := auditJudgesRow.holds Try.pinned (OpenSpec.ofChange auditJudgesWrong)

/- THE SECOND FORM. 'bulk': how many values and letters a reading holds, each counted each time it is reached (what is shared counts as often as it is met; a slice's spare places count too). A statement '..UptoSaid' is the law's where the arguments, and the package variables that the reading takes, are together of bulk at most 1048576: NARROWER than '..Said'. Prove '..Said' where nothing that the law and all that it calls make is longer than what came in: it says more and counts as full. Else prove '..UptoSaid'. A law counts once. -/
mutual
def uptoBulk {H : Type} : DataW H → Nat
  | .lit (.string bytes) => bytes.length + 1
  | .lit _ => 1
  | .nil => 1
  | .ptr d => uptoBulk d + 1
  | .slice elems spare => uptoBulkAll elems + uptoBulkAll spare + 1
  | .agg parts => uptoBulkAll parts + 1
  | .iface _ d => uptoBulk d + 1
  | .map entries => uptoBulkEntries entries + 1
  | .held _ => 1
def uptoBulkAll {H : Type} : List (DataW H) → Nat
  | [] => 0
  | d :: r => uptoBulk d + uptoBulkAll r
def uptoBulkEntries {H : Type} : List (Lit × DataW H) → Nat
  | [] => 0
  | x :: r => uptoBulkEntry x + uptoBulkEntries r
def uptoBulkEntry {H : Type} : Lit × DataW H → Nat
  | (.string bytes, d) => bytes.length + uptoBulk d + 1
  | (_, d) => uptoBulk d + 1
 end
def uptoSmall : (H : Type) → List (DataW H) → Bool := fun _ ds => decide (uptoBulkAll ds ≤ 1048576)
def OpenSpec.upto (s : _root_.Go.ChangeSpec) : _root_.Go.OpenSpec := { _root_.Go.OpenSpec.ofChange s with cond := some uptoSmall }

/-- 'gafferlaw21.AuditBegins', WHERE WHAT IT READS IS OF BULK AT MOST 1048576: true; the input reads as it did. -/
def auditBeginsUptoRow : OpenClaim := { program := "ytfghnepmbgbnoaa", sum := "94ea2f8f53a7eee69181b709a63b2b634a554851dc9b4daada2479441b3ac34c", func := "gaffer/gafferlaw21.AuditBegins", spec := "auditBegins", unfollowed := true, recurses := true, plainKeys := false, apart := false, narrowed := true }
def AuditBeginsUptoSaid : Prop := auditBeginsUptoRow.holds Try.pinned (OpenSpec.upto auditBeginsSpec)

/-- 'gafferlaw21.AuditPasses', WHERE WHAT IT READS IS OF BULK AT MOST 1048576: true; the input reads as it did. -/
def auditPassesUptoRow : OpenClaim := { program := "ytfghnepmbgbnoaa", sum := "94ea2f8f53a7eee69181b709a63b2b634a554851dc9b4daada2479441b3ac34c", func := "gaffer/gafferlaw21.AuditPasses", spec := "auditPasses", unfollowed := true, recurses := true, plainKeys := false, apart := false, narrowed := true }
def AuditPassesUptoSaid : Prop := auditPassesUptoRow.holds Try.pinned (OpenSpec.upto auditPassesSpec)

/-- 'gafferlaw21.AuditMeans', WHERE WHAT IT READS IS OF BULK AT MOST 1048576: true; the input reads as it did. -/
def auditMeansUptoRow : OpenClaim := { program := "ytfghnepmbgbnoaa", sum := "94ea2f8f53a7eee69181b709a63b2b634a554851dc9b4daada2479441b3ac34c", func := "gaffer/gafferlaw21.AuditMeans", spec := "auditMeans", unfollowed := true, recurses := true, plainKeys := false, apart := false, narrowed := true }
def AuditMeansUptoSaid : Prop := auditMeansUptoRow.holds Try.pinned (OpenSpec.upto auditMeansSpec)

/-- 'gafferlaw21.AuditJudges', WHERE WHAT IT READS IS OF BULK AT MOST 1048576: true; the input reads as it did. -/
def auditJudgesUptoRow : OpenClaim := { program := "ytfghnepmbgbnoaa", sum := "94ea2f8f53a7eee69181b709a63b2b634a554851dc9b4daada2479441b3ac34c", func := "gaffer/gafferlaw21.AuditJudges", spec := "auditJudges", unfollowed := true, recurses := true, plainKeys := false, apart := false, narrowed := true }
def AuditJudgesUptoSaid : Prop := auditJudgesUptoRow.holds Try.pinned (OpenSpec.upto auditJudgesSpec)

end Rows
end Go.Proofs.Ytfghnepmbgbnoaa
