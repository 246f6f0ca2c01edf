import Derived.Test.YtakfgjbnhhdpoaaC5
namespace Go.Proofs.Ytakfgjbnhhdpoaa
open Go Go.Sep Go.Proofs
theorem chunks_window (w : World) (sa : Option Addr) (len cap : Nat) (W R : Int) (ops : List SOp) (hs : Script (baseOf w) sa len ops) (hlen : len ≤ 9223372036854775806) :
    Calls Try.prog 3 #[.int .i64 W, .int .i64 R, .slice sa len cap] w fun e w' => e = .returned (.bool true) ∧ RowKit.Below w.heap.size w w' := by
  by_cases h : 1 ≤ W ∧ W ≤ 8 ∧ 1 ≤ R ∧ R ≤ 16
  · obtain ⟨a, rfl⟩ : ∃ a : Nat, W = a := ⟨W.toNat, by omega⟩
    obtain ⟨b, rfl⟩ : ∃ b : Nat, R = b := ⟨R.toNat, by omega⟩
    exact cwindow_yes w sa len cap a b ops hs hlen (by omega) (by omega) (by omega) (by omega)
  · exact window_no w sa len cap W R h
end Go.Proofs.Ytakfgjbnhhdpoaa
