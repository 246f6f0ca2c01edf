/-
  No cell of these rows narrows 'for every input' (looked for: loops, veiled, ifaces, maps, wideKeys, modest, calm, conditions, laid).
  DERIVED. THE GIVEN ROWS OF THIS SEAT. 6 by the template 'for every input the law returns true; each argument reads behind the call as it read before'; 0 by the template 'total and deterministic' (their statements: YtlfhimdmhhpcfaaTotals.lean).
  GIVEN WITH THE SEED: the statements are not yours to turn. If you find one false, say at which input.
  Laid BY PROGRAM, IN A SANDBOX (cutbox-rows.mjs): the forced cells as the released guide's own fill.sh prints them over the translation f851878f38a8a74a… (all of the seat's roots in one cut). By AI agents, Wed Nov 11 2026. No macro, syntax, notation, axiom, sorry.
-/
import Derived.Test.YtlfhimdmhhpcfaaChecked
import GoSem.Claim
import GoSem.ClaimJoined
import GoSem.ClaimMapViews
import Derived.JoinedTies
import Derived.KernelRfl
namespace Go.Proofs.Ytlfhimdmhhpcfaa
/- THE CELL 'sum', in the pinned program and in every row, IS THE sha256 OF THE DUMP (.gsa) THAT YtlfhimdmhhpcfaaProg.lean LOADS. Nothing in Lean hashes anything: it is a label: what it is worth is what the hold of that sum in a sandbox is worth. -/
noncomputable def Try.pinned : Pinned := { name := "ytlfhimdmhhpcfaa", sum := "f851878f38a8a74a3307d01e9a6d0eabac7294485e38f17d6502b5812c59700d", checked := Try.checked }
namespace Rows
def none {H : Type} : Left H := { results := [], args := [] }

/-- 'gafferlaw12.LeaseTells': WHATEVER THE INPUT: true; the input reads as it did. -/
def leaseTellsSpec : ChangeSpec := { name := "leaseTells", fn := fun _ => fun
  | [d1, d2] => { results := [.lit (.bool true)], args := [d1, d2] }
  | _ => none }
def leaseTellsRow : OpenClaim := { program := "ytlfhimdmhhpcfaa", sum := "f851878f38a8a74a3307d01e9a6d0eabac7294485e38f17d6502b5812c59700d", func := "gaffer/gafferlaw12.LeaseTells", spec := "leaseTells", inPlace := ["maps.clone"], unfollowed := true, recurses := true, apart := false }
def LeaseTellsSaid : Prop := leaseTellsRow.holds Try.pinned (OpenSpec.ofChange leaseTellsSpec)

/-- ITS FALSE NEIGHBOUR: 'it returns false'. Refute it at one input. -/
def leaseTellsWrong : ChangeSpec := { name := "leaseTells", fn := fun _ => fun
  | [d1, d2] => { results := [.lit (.bool false)], args := [d1, d2] }
  | _ => none }
def LeaseTellsWrongFalsely : Prop := leaseTellsRow.holds Try.pinned (OpenSpec.ofChange leaseTellsWrong)

/-- 'gafferlaw12.LeaseWaits': WHATEVER THE INPUT: true; the input reads as it did. -/
def leaseWaitsSpec : ChangeSpec := { name := "leaseWaits", fn := fun _ => fun
  | [d1, d2] => { results := [.lit (.bool true)], args := [d1, d2] }
  | _ => none }
def leaseWaitsRow : OpenClaim := { program := "ytlfhimdmhhpcfaa", sum := "f851878f38a8a74a3307d01e9a6d0eabac7294485e38f17d6502b5812c59700d", func := "gaffer/gafferlaw12.LeaseWaits", spec := "leaseWaits", inPlace := ["maps.clone"], unfollowed := true, recurses := true, apart := false }
def LeaseWaitsSaid : Prop := leaseWaitsRow.holds Try.pinned (OpenSpec.ofChange leaseWaitsSpec)

/-- ITS FALSE NEIGHBOUR: 'it returns false'. Refute it at one input. -/
def leaseWaitsWrong : ChangeSpec := { name := "leaseWaits", fn := fun _ => fun
  | [d1, d2] => { results := [.lit (.bool false)], args := [d1, d2] }
  | _ => none }
def LeaseWaitsWrongFalsely : Prop := leaseWaitsRow.holds Try.pinned (OpenSpec.ofChange leaseWaitsWrong)

/-- 'gafferlaw12.LeaseRefuses': WHATEVER THE INPUT: true; the input reads as it did. -/
def leaseRefusesSpec : ChangeSpec := { name := "leaseRefuses", fn := fun _ => fun
  | [d1, d2] => { results := [.lit (.bool true)], args := [d1, d2] }
  | _ => none }
def leaseRefusesRow : OpenClaim := { program := "ytlfhimdmhhpcfaa", sum := "f851878f38a8a74a3307d01e9a6d0eabac7294485e38f17d6502b5812c59700d", func := "gaffer/gafferlaw12.LeaseRefuses", spec := "leaseRefuses", inPlace := ["maps.clone"], unfollowed := true, recurses := true, apart := false }
def LeaseRefusesSaid : Prop := leaseRefusesRow.holds Try.pinned (OpenSpec.ofChange leaseRefusesSpec)

/-- ITS FALSE NEIGHBOUR: 'it returns false'. Refute it at one input. -/
def leaseRefusesWrong : ChangeSpec := { name := "leaseRefuses", fn := fun _ => fun
  | [d1, d2] => { results := [.lit (.bool false)], args := [d1, d2] }
  | _ => none }
def LeaseRefusesWrongFalsely : Prop := leaseRefusesRow.holds Try.pinned (OpenSpec.ofChange leaseRefusesWrong)

/-- 'gafferlaw12.LeaseStands': WHATEVER THE INPUT: true; the input reads as it did. -/
def leaseStandsSpec : ChangeSpec := { name := "leaseStands", fn := fun _ => fun
  | [d1, d2] => { results := [.lit (.bool true)], args := [d1, d2] }
  | _ => none }
def leaseStandsRow : OpenClaim := { program := "ytlfhimdmhhpcfaa", sum := "f851878f38a8a74a3307d01e9a6d0eabac7294485e38f17d6502b5812c59700d", func := "gaffer/gafferlaw12.LeaseStands", spec := "leaseStands", inPlace := ["maps.clone"], unfollowed := true, recurses := true, apart := false }
def LeaseStandsSaid : Prop := leaseStandsRow.holds Try.pinned (OpenSpec.ofChange leaseStandsSpec)

/-- ITS FALSE NEIGHBOUR: 'it returns false'. Refute it at one input. -/
def leaseStandsWrong : ChangeSpec := { name := "leaseStands", fn := fun _ => fun
  | [d1, d2] => { results := [.lit (.bool false)], args := [d1, d2] }
  | _ => none }
def LeaseStandsWrongFalsely : Prop := leaseStandsRow.holds Try.pinned (OpenSpec.ofChange leaseStandsWrong)

/-- 'gafferlaw12.LeaseRuns': WHATEVER THE INPUT: true; the input reads as it did. -/
def leaseRunsSpec : ChangeSpec := { name := "leaseRuns", fn := fun _ => fun
  | [d1, d2] => { results := [.lit (.bool true)], args := [d1, d2] }
  | _ => none }
def leaseRunsRow : OpenClaim := { program := "ytlfhimdmhhpcfaa", sum := "f851878f38a8a74a3307d01e9a6d0eabac7294485e38f17d6502b5812c59700d", func := "gaffer/gafferlaw12.LeaseRuns", spec := "leaseRuns", inPlace := ["maps.clone"], unfollowed := true, recurses := true, apart := false }
def LeaseRunsSaid : Prop := leaseRunsRow.holds Try.pinned (OpenSpec.ofChange leaseRunsSpec)

/-- ITS FALSE NEIGHBOUR: 'it returns false'. Refute it at one input. -/
def leaseRunsWrong : ChangeSpec := { name := "leaseRuns", fn := fun _ => fun
  | [d1, d2] => { results := [.lit (.bool false)], args := [d1, d2] }
  | _ => none }
def LeaseRunsWrongFalsely : Prop := leaseRunsRow.holds Try.pinned (OpenSpec.ofChange leaseRunsWrong)

/-- 'gafferlaw12.LeaseDoes': WHATEVER THE INPUT: true; the input reads as it did. -/
def leaseDoesSpec : ChangeSpec := { name := "leaseDoes", fn := fun _ => fun
  | [d1, d2] => { results := [.lit (.bool true)], args := [d1, d2] }
  | _ => none }
def leaseDoesRow : OpenClaim := { program := "ytlfhimdmhhpcfaa", sum := "f851878f38a8a74a3307d01e9a6d0eabac7294485e38f17d6502b5812c59700d", func := "gaffer/gafferlaw12.LeaseDoes", spec := "leaseDoes", inPlace := ["maps.clone"], unfollowed := true, recurses := true, apart := false }
def LeaseDoesSaid : Prop := leaseDoesRow.holds Try.pinned (OpenSpec.ofChange leaseDoesSpec)

/-- ITS FALSE NEIGHBOUR: 'it returns false'. Refute it at one input. -/
def leaseDoesWrong : ChangeSpec := { name := "leaseDoes", fn := fun _ => fun
  | [d1, d2] => { results := [.lit (.bool false)], args := [d1, d2] }
  | _ => none }
def LeaseDoesWrongFalsely : Prop := leaseDoesRow.holds Try.pinned (OpenSpec.ofChange leaseDoesWrong)

/- THE SECOND FORM. 'bulk': how many values and letters a reading holds, each counted each time it is reached (what is shared counts as often as it is met; a slice's spare places count too). A statement '..UptoSaid' is the law's where the arguments, and the package variables that the reading takes, are together of bulk at most 1048576: NARROWER than '..Said'. Prove '..Said' where nothing that the law and all that it calls make is longer than what came in: it says more and counts as full. Else prove '..UptoSaid'. A law counts once. -/
mutual
def uptoBulk {H : Type} : DataW H → Nat
  | .lit (.string bytes) => bytes.length + 1
  | .lit _ => 1
  | .nil => 1
  | .ptr d => uptoBulk d + 1
  | .slice elems spare => uptoBulkAll elems + uptoBulkAll spare + 1
  | .agg parts => uptoBulkAll parts + 1
  | .iface _ d => uptoBulk d + 1
  | .map entries => uptoBulkEntries entries + 1
  | .held _ => 1
def uptoBulkAll {H : Type} : List (DataW H) → Nat
  | [] => 0
  | d :: r => uptoBulk d + uptoBulkAll r
def uptoBulkEntries {H : Type} : List (Lit × DataW H) → Nat
  | [] => 0
  | x :: r => uptoBulkEntry x + uptoBulkEntries r
def uptoBulkEntry {H : Type} : Lit × DataW H → Nat
  | (.string bytes, d) => bytes.length + uptoBulk d + 1
  | (_, d) => uptoBulk d + 1
 end
def uptoSmall : (H : Type) → List (DataW H) → Bool := fun _ ds => decide (uptoBulkAll ds ≤ 1048576)
def OpenSpec.upto (s : _root_.Go.ChangeSpec) : _root_.Go.OpenSpec := { _root_.Go.OpenSpec.ofChange s with cond := some uptoSmall }

/-- 'gafferlaw12.LeaseTells', WHERE WHAT IT READS IS OF BULK AT MOST 1048576: true; the input reads as it did. -/
def leaseTellsUptoRow : OpenClaim := { program := "ytlfhimdmhhpcfaa", sum := "f851878f38a8a74a3307d01e9a6d0eabac7294485e38f17d6502b5812c59700d", func := "gaffer/gafferlaw12.LeaseTells", spec := "leaseTells", inPlace := ["maps.clone"], unfollowed := true, recurses := true, apart := false, narrowed := true }
def LeaseTellsUptoSaid : Prop := leaseTellsUptoRow.holds Try.pinned (OpenSpec.upto leaseTellsSpec)

/-- 'gafferlaw12.LeaseWaits', WHERE WHAT IT READS IS OF BULK AT MOST 1048576: true; the input reads as it did. -/
def leaseWaitsUptoRow : OpenClaim := { program := "ytlfhimdmhhpcfaa", sum := "f851878f38a8a74a3307d01e9a6d0eabac7294485e38f17d6502b5812c59700d", func := "gaffer/gafferlaw12.LeaseWaits", spec := "leaseWaits", inPlace := ["maps.clone"], unfollowed := true, recurses := true, apart := false, narrowed := true }
def LeaseWaitsUptoSaid : Prop := leaseWaitsUptoRow.holds Try.pinned (OpenSpec.upto leaseWaitsSpec)

/-- 'gafferlaw12.LeaseRefuses', WHERE WHAT IT READS IS OF BULK AT MOST 1048576: true; the input reads as it did. -/
def leaseRefusesUptoRow : OpenClaim := { program := "ytlfhimdmhhpcfaa", sum := "f851878f38a8a74a3307d01e9a6d0eabac7294485e38f17d6502b5812c59700d", func := "gaffer/gafferlaw12.LeaseRefuses", spec := "leaseRefuses", inPlace := ["maps.clone"], unfollowed := true, recurses := true, apart := false, narrowed := true }
def LeaseRefusesUptoSaid : Prop := leaseRefusesUptoRow.holds Try.pinned (OpenSpec.upto leaseRefusesSpec)

/-- 'gafferlaw12.LeaseStands', WHERE WHAT IT READS IS OF BULK AT MOST 1048576: true; the input reads as it did. -/
def leaseStandsUptoRow : OpenClaim := { program := "ytlfhimdmhhpcfaa", sum := "f851878f38a8a74a3307d01e9a6d0eabac7294485e38f17d6502b5812c59700d", func := "gaffer/gafferlaw12.LeaseStands", spec := "leaseStands", inPlace := ["maps.clone"], unfollowed := true, recurses := true, apart := false, narrowed := true }
def LeaseStandsUptoSaid : Prop := leaseStandsUptoRow.holds Try.pinned (OpenSpec.upto leaseStandsSpec)

/-- 'gafferlaw12.LeaseRuns', WHERE WHAT IT READS IS OF BULK AT MOST 1048576: true; the input reads as it did. -/
def leaseRunsUptoRow : OpenClaim := { program := "ytlfhimdmhhpcfaa", sum := "f851878f38a8a74a3307d01e9a6d0eabac7294485e38f17d6502b5812c59700d", func := "gaffer/gafferlaw12.LeaseRuns", spec := "leaseRuns", inPlace := ["maps.clone"], unfollowed := true, recurses := true, apart := false, narrowed := true }
def LeaseRunsUptoSaid : Prop := leaseRunsUptoRow.holds Try.pinned (OpenSpec.upto leaseRunsSpec)

/-- 'gafferlaw12.LeaseDoes', WHERE WHAT IT READS IS OF BULK AT MOST 1048576: true; the input reads as it did. -/
def leaseDoesUptoRow : OpenClaim := { program := "ytlfhimdmhhpcfaa", sum := "f851878f38a8a74a3307d01e9a6d0eabac7294485e38f17d6502b5812c59700d", func := "gaffer/gafferlaw12.LeaseDoes", spec := "leaseDoes", inPlace := ["maps.clone"], unfollowed := true, recurses := true, apart := false, narrowed := true }
def LeaseDoesUptoSaid : Prop := leaseDoesUptoRow.holds Try.pinned (OpenSpec.upto leaseDoesSpec)

end Rows
end Go.Proofs.Ytlfhimdmhhpcfaa
