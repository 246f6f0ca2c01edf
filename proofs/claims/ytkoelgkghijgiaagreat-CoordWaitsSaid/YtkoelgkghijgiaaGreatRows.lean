/-
  No cell of these rows narrows 'for every input' (looked for: loops, veiled, ifaces, maps, wideKeys, modest, calm, conditions, laid).
  DERIVED. THE GIVEN ROWS OF THIS SEAT. 5 by the template 'for every input the law returns true; each argument reads behind the call as it read before'; 0 by the template 'total and deterministic' (their statements: YtkoelgkghijgiaaGreatTotals.lean).
  GIVEN WITH THE SEED: the statements are not yours to turn. If you find one false, say at which input.
  Laid BY PROGRAM, IN A SANDBOX (cutbox-rows.mjs): the forced cells as the released guide's own fill.sh prints them over the translation 32b864db806ad55a… (all of the seat's roots in one cut). By AI agents, Wed Nov 11 2026. No macro, syntax, notation, axiom, sorry.
-/
import Derived.Test.YtkoelgkghijgiaaGreatChecked
import GoSem.Claim
import GoSem.ClaimJoined
import GoSem.ClaimMapViews
import Derived.JoinedTies
import Derived.KernelRfl
namespace Go.Proofs.YtkoelgkghijgiaaGreat
/- THE CELL 'sum', in the pinned program and in every row, IS THE sha256 OF THE DUMP (.gsa) THAT YtkoelgkghijgiaaGreatProg.lean LOADS. Nothing in Lean hashes anything: it is a label: what it is worth is what the hold of that sum in a sandbox is worth. -/
noncomputable def Tryz.pinned : Pinned := { name := "ytkoelgkghijgiaagreat", sum := "32b864db806ad55afcfd79f0ee37e8e1cfd401897e4b2da2db55bb57fe7eb0c1", checked := Tryz.checked }
namespace Rows
def none {H : Type} : Left H := { results := [], args := [] }

/-- 'gafferlaw18.CoordOnce': WHATEVER THE INPUT: true; the input reads as it did. -/
def coordOnceSpec : ChangeSpec := { name := "coordOnce", fn := fun _ => fun
  | [d1, d2] => { results := [.lit (.bool true)], args := [d1, d2] }
  | _ => none }
def coordOnceRow : OpenClaim := { program := "ytkoelgkghijgiaagreat", sum := "32b864db806ad55afcfd79f0ee37e8e1cfd401897e4b2da2db55bb57fe7eb0c1", func := "gaffer/gafferlaw18.CoordOnce", spec := "coordOnce", inPlace := ["internal/abi.NoEscape", "internal/bytealg.MakeNoZero", "internal/bytealg.IndexByteString", "internal/bytealg.IndexString", "maps.clone", "math.Float64frombits", "math.Float64bits"], unfollowed := true, recurses := true, named := ["internal/bytealg.MaxLen"], apart := false }
def CoordOnceSaid : Prop := coordOnceRow.holds Tryz.pinned (OpenSpec.ofChange coordOnceSpec)

/-- ITS FALSE NEIGHBOUR: 'it returns false'. Refute it at one input. -/
def coordOnceWrong : ChangeSpec := { name := "coordOnce", fn := fun _ => fun
  | [d1, d2] => { results := [.lit (.bool false)], args := [d1, d2] }
  | _ => none }
def CoordOnceWrongFalsely : Prop := coordOnceRow.holds Tryz.pinned (OpenSpec.ofChange coordOnceWrong)

/-- 'gafferlaw18.CoordServes': WHATEVER THE INPUT: true; the input reads as it did. -/
def coordServesSpec : ChangeSpec := { name := "coordServes", fn := fun _ => fun
  | [d1, d2, d3] => { results := [.lit (.bool true)], args := [d1, d2, d3] }
  | _ => none }
def coordServesRow : OpenClaim := { program := "ytkoelgkghijgiaagreat", sum := "32b864db806ad55afcfd79f0ee37e8e1cfd401897e4b2da2db55bb57fe7eb0c1", func := "gaffer/gafferlaw18.CoordServes", spec := "coordServes", inPlace := ["internal/abi.NoEscape", "internal/bytealg.MakeNoZero", "internal/bytealg.IndexByteString", "internal/bytealg.IndexString", "maps.clone", "math.Float64frombits", "math.Float64bits"], unfollowed := true, recurses := true, named := ["internal/bytealg.MaxLen"], apart := false }
def CoordServesSaid : Prop := coordServesRow.holds Tryz.pinned (OpenSpec.ofChange coordServesSpec)

/-- ITS FALSE NEIGHBOUR: 'it returns false'. Refute it at one input. -/
def coordServesWrong : ChangeSpec := { name := "coordServes", fn := fun _ => fun
  | [d1, d2, d3] => { results := [.lit (.bool false)], args := [d1, d2, d3] }
  | _ => none }
def CoordServesWrongFalsely : Prop := coordServesRow.holds Tryz.pinned (OpenSpec.ofChange coordServesWrong)

/-- 'gafferlaw18.CoordStale': WHATEVER THE INPUT: true; the input reads as it did. -/
def coordStaleSpec : ChangeSpec := { name := "coordStale", fn := fun _ => fun
  | [d1, d2] => { results := [.lit (.bool true)], args := [d1, d2] }
  | _ => none }
def coordStaleRow : OpenClaim := { program := "ytkoelgkghijgiaagreat", sum := "32b864db806ad55afcfd79f0ee37e8e1cfd401897e4b2da2db55bb57fe7eb0c1", func := "gaffer/gafferlaw18.CoordStale", spec := "coordStale", inPlace := ["internal/abi.NoEscape", "internal/bytealg.MakeNoZero", "internal/bytealg.IndexByteString", "internal/bytealg.IndexString", "maps.clone", "math.Float64frombits", "math.Float64bits"], unfollowed := true, recurses := true, named := ["internal/bytealg.MaxLen"], apart := false }
def CoordStaleSaid : Prop := coordStaleRow.holds Tryz.pinned (OpenSpec.ofChange coordStaleSpec)

/-- ITS FALSE NEIGHBOUR: 'it returns false'. Refute it at one input. -/
def coordStaleWrong : ChangeSpec := { name := "coordStale", fn := fun _ => fun
  | [d1, d2] => { results := [.lit (.bool false)], args := [d1, d2] }
  | _ => none }
def CoordStaleWrongFalsely : Prop := coordStaleRow.holds Tryz.pinned (OpenSpec.ofChange coordStaleWrong)

/-- 'gafferlaw18.CoordHeedless': WHATEVER THE INPUT: true; the input reads as it did. -/
def coordHeedlessSpec : ChangeSpec := { name := "coordHeedless", fn := fun _ => fun
  | [d1, d2] => { results := [.lit (.bool true)], args := [d1, d2] }
  | _ => none }
def coordHeedlessRow : OpenClaim := { program := "ytkoelgkghijgiaagreat", sum := "32b864db806ad55afcfd79f0ee37e8e1cfd401897e4b2da2db55bb57fe7eb0c1", func := "gaffer/gafferlaw18.CoordHeedless", spec := "coordHeedless", inPlace := ["internal/abi.NoEscape", "internal/bytealg.MakeNoZero", "internal/bytealg.IndexByteString", "internal/bytealg.IndexString", "maps.clone", "math.Float64frombits", "math.Float64bits"], unfollowed := true, recurses := true, named := ["internal/bytealg.MaxLen"], apart := false }
def CoordHeedlessSaid : Prop := coordHeedlessRow.holds Tryz.pinned (OpenSpec.ofChange coordHeedlessSpec)

/-- ITS FALSE NEIGHBOUR: 'it returns false'. Refute it at one input. -/
def coordHeedlessWrong : ChangeSpec := { name := "coordHeedless", fn := fun _ => fun
  | [d1, d2] => { results := [.lit (.bool false)], args := [d1, d2] }
  | _ => none }
def CoordHeedlessWrongFalsely : Prop := coordHeedlessRow.holds Tryz.pinned (OpenSpec.ofChange coordHeedlessWrong)

/-- 'gafferlaw18.CoordWaits': WHATEVER THE INPUT: true; the input reads as it did. -/
def coordWaitsSpec : ChangeSpec := { name := "coordWaits", fn := fun _ => fun
  | [d1, d2] => { results := [.lit (.bool true)], args := [d1, d2] }
  | _ => none }
def coordWaitsRow : OpenClaim := { program := "ytkoelgkghijgiaagreat", sum := "32b864db806ad55afcfd79f0ee37e8e1cfd401897e4b2da2db55bb57fe7eb0c1", func := "gaffer/gafferlaw18.CoordWaits", spec := "coordWaits", inPlace := ["internal/abi.NoEscape", "internal/bytealg.MakeNoZero", "internal/bytealg.IndexByteString", "internal/bytealg.IndexString", "maps.clone", "math.Float64frombits", "math.Float64bits"], unfollowed := true, recurses := true, named := ["internal/bytealg.MaxLen"], apart := false }
def CoordWaitsSaid : Prop := coordWaitsRow.holds Tryz.pinned (OpenSpec.ofChange coordWaitsSpec)

/-- ITS FALSE NEIGHBOUR: 'it returns false'. Refute it at one input. -/
def coordWaitsWrong : ChangeSpec := { name := "coordWaits", fn := fun _ => fun
  | [d1, d2] => { results := [.lit (.bool false)], args := [d1, d2] }
  | _ => none }
def CoordWaitsWrongFalsely : Prop := coordWaitsRow.holds Tryz.pinned (OpenSpec.ofChange coordWaitsWrong)

/- THE SECOND FORM. 'bulk': how many values and letters a reading holds, each counted each time it is reached (what is shared counts as often as it is met; a slice's spare places count too). A statement '..UptoSaid' is the law's where the arguments, and the package variables that the reading takes, are together of bulk at most 1048576: NARROWER than '..Said'. Prove '..Said' where nothing that the law and all that it calls make is longer than what came in: it says more and counts as full. Else prove '..UptoSaid'. A law counts once. -/
mutual
def uptoBulk {H : Type} : DataW H → Nat
  | .lit (.string bytes) => bytes.length + 1
  | .lit _ => 1
  | .nil => 1
  | .ptr d => uptoBulk d + 1
  | .slice elems spare => uptoBulkAll elems + uptoBulkAll spare + 1
  | .agg parts => uptoBulkAll parts + 1
  | .iface _ d => uptoBulk d + 1
  | .map entries => uptoBulkEntries entries + 1
  | .held _ => 1
def uptoBulkAll {H : Type} : List (DataW H) → Nat
  | [] => 0
  | d :: r => uptoBulk d + uptoBulkAll r
def uptoBulkEntries {H : Type} : List (Lit × DataW H) → Nat
  | [] => 0
  | x :: r => uptoBulkEntry x + uptoBulkEntries r
def uptoBulkEntry {H : Type} : Lit × DataW H → Nat
  | (.string bytes, d) => bytes.length + uptoBulk d + 1
  | (_, d) => uptoBulk d + 1
 end
def uptoSmall : (H : Type) → List (DataW H) → Bool := fun _ ds => decide (uptoBulkAll ds ≤ 1048576)
def OpenSpec.upto (s : _root_.Go.ChangeSpec) : _root_.Go.OpenSpec := { _root_.Go.OpenSpec.ofChange s with cond := some uptoSmall }

/-- 'gafferlaw18.CoordOnce', WHERE WHAT IT READS IS OF BULK AT MOST 1048576: true; the input reads as it did. -/
def coordOnceUptoRow : OpenClaim := { program := "ytkoelgkghijgiaagreat", sum := "32b864db806ad55afcfd79f0ee37e8e1cfd401897e4b2da2db55bb57fe7eb0c1", func := "gaffer/gafferlaw18.CoordOnce", spec := "coordOnce", inPlace := ["internal/abi.NoEscape", "internal/bytealg.MakeNoZero", "internal/bytealg.IndexByteString", "internal/bytealg.IndexString", "maps.clone", "math.Float64frombits", "math.Float64bits"], unfollowed := true, recurses := true, named := ["internal/bytealg.MaxLen"], apart := false, narrowed := true }
def CoordOnceUptoSaid : Prop := coordOnceUptoRow.holds Tryz.pinned (OpenSpec.upto coordOnceSpec)

/-- 'gafferlaw18.CoordServes', WHERE WHAT IT READS IS OF BULK AT MOST 1048576: true; the input reads as it did. -/
def coordServesUptoRow : OpenClaim := { program := "ytkoelgkghijgiaagreat", sum := "32b864db806ad55afcfd79f0ee37e8e1cfd401897e4b2da2db55bb57fe7eb0c1", func := "gaffer/gafferlaw18.CoordServes", spec := "coordServes", inPlace := ["internal/abi.NoEscape", "internal/bytealg.MakeNoZero", "internal/bytealg.IndexByteString", "internal/bytealg.IndexString", "maps.clone", "math.Float64frombits", "math.Float64bits"], unfollowed := true, recurses := true, named := ["internal/bytealg.MaxLen"], apart := false, narrowed := true }
def CoordServesUptoSaid : Prop := coordServesUptoRow.holds Tryz.pinned (OpenSpec.upto coordServesSpec)

/-- 'gafferlaw18.CoordStale', WHERE WHAT IT READS IS OF BULK AT MOST 1048576: true; the input reads as it did. -/
def coordStaleUptoRow : OpenClaim := { program := "ytkoelgkghijgiaagreat", sum := "32b864db806ad55afcfd79f0ee37e8e1cfd401897e4b2da2db55bb57fe7eb0c1", func := "gaffer/gafferlaw18.CoordStale", spec := "coordStale", inPlace := ["internal/abi.NoEscape", "internal/bytealg.MakeNoZero", "internal/bytealg.IndexByteString", "internal/bytealg.IndexString", "maps.clone", "math.Float64frombits", "math.Float64bits"], unfollowed := true, recurses := true, named := ["internal/bytealg.MaxLen"], apart := false, narrowed := true }
def CoordStaleUptoSaid : Prop := coordStaleUptoRow.holds Tryz.pinned (OpenSpec.upto coordStaleSpec)

/-- 'gafferlaw18.CoordHeedless', WHERE WHAT IT READS IS OF BULK AT MOST 1048576: true; the input reads as it did. -/
def coordHeedlessUptoRow : OpenClaim := { program := "ytkoelgkghijgiaagreat", sum := "32b864db806ad55afcfd79f0ee37e8e1cfd401897e4b2da2db55bb57fe7eb0c1", func := "gaffer/gafferlaw18.CoordHeedless", spec := "coordHeedless", inPlace := ["internal/abi.NoEscape", "internal/bytealg.MakeNoZero", "internal/bytealg.IndexByteString", "internal/bytealg.IndexString", "maps.clone", "math.Float64frombits", "math.Float64bits"], unfollowed := true, recurses := true, named := ["internal/bytealg.MaxLen"], apart := false, narrowed := true }
def CoordHeedlessUptoSaid : Prop := coordHeedlessUptoRow.holds Tryz.pinned (OpenSpec.upto coordHeedlessSpec)

/-- 'gafferlaw18.CoordWaits', WHERE WHAT IT READS IS OF BULK AT MOST 1048576: true; the input reads as it did. -/
def coordWaitsUptoRow : OpenClaim := { program := "ytkoelgkghijgiaagreat", sum := "32b864db806ad55afcfd79f0ee37e8e1cfd401897e4b2da2db55bb57fe7eb0c1", func := "gaffer/gafferlaw18.CoordWaits", spec := "coordWaits", inPlace := ["internal/abi.NoEscape", "internal/bytealg.MakeNoZero", "internal/bytealg.IndexByteString", "internal/bytealg.IndexString", "maps.clone", "math.Float64frombits", "math.Float64bits"], unfollowed := true, recurses := true, named := ["internal/bytealg.MaxLen"], apart := false, narrowed := true }
def CoordWaitsUptoSaid : Prop := coordWaitsUptoRow.holds Tryz.pinned (OpenSpec.upto coordWaitsSpec)

end Rows
end Go.Proofs.YtkoelgkghijgiaaGreat
