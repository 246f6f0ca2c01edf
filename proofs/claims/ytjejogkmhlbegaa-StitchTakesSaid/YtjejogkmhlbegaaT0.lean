import Derived.Test.YtjejogkmhlbegaaT3
namespace Go.Proofs.Ytjejogkmhlbegaa
open Go Go.Sep Go.Proofs
set_option linter.unusedSimpArgs false
set_option linter.unusedVariables false

/-- An operation of the script. -/
structure SOp where
  kind : Int
  on : Int
  idx : Int
  text : ByteArray
@[reducible] def SOp.row (o : SOp) : List Value := [.int .i64 o.kind, .int .i64 o.on, .int .i64 o.idx, .string o.text]
/-- The script, where it lies. -/
def Script (B : Base) (a : Option Addr) (len : Nat) (ops : List SOp) : Prop :=
  ops.length = len ∧ ∀ (i : Nat) (o : SOp), ops[i]? = some o → (o.idx ≤ 9223372036854775807 ∧ ∃ b off, a = some ⟨b, off, none⟩ ∧ ∀ (A : List Blk) (j : Nat) (u : Value), o.row[j]? = some u → Rd B A b (off + i * 4 + j) u)

theorem heldL_in {win : Nat} {s : Sp} (h : SpOk win s) {v : Int} (hv : v ∈ heldL s.hb) : (s.nx : Int) < v ∧ v < (s.nx : Int) + win := by
  obtain ⟨h0, h1⟩ := mem_heldL.1 hv
  have h2 := h.inw _ h1
  have h3 : v.toNat ≠ s.nx := fun e => h.free (by rw [← e]; exact h1)
  omega
theorem heldL_few {win : Nat} {s : Sp} (h : SpOk win s) : (heldL s.hb).length < win := by
  have h1 : (heldL s.hb).length ≤ ((List.range (win - 1)).map fun q => ((s.nx + 1 + q : Nat) : Int)).length := nodup_len ((heldL_lt s.hb).imp fun h => Int.ne_of_lt h) fun i hi => by
    have := heldL_in h hi
    exact List.mem_map.2 ⟨i.toNat - s.nx - 1, List.mem_range.2 (by omega), by omega⟩
  rw [List.length_map, List.length_range] at h1
  have := h.w0
  omega
end Go.Proofs.Ytjejogkmhlbegaa
