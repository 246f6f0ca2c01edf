/- Proved: MeasureFull returns true whatever the input, and the input reads as it did (Rows.MeasureFullSaid). Conditions: none. -/
import Derived.Test.YtkcmjgjfodipfaaGreatA28
namespace Go.Proofs.YtkcmjgjfodipfaaGreat.measureFullDone
open Go Go.Sep Go.Proofs
set_option linter.unusedVariables false
set_option maxHeartbeats 4000000
theorem andI {a b : Bool} (h1 : a = true) (h2 : b = true) : (a && b) = true := by rw [h1, h2]; rfl
theorem proved : Rows.MeasureFullSaid :=
  OpenClaim.holds_of_wide 3 Tryz.f3 rfl rfl rfl rfl rfl rfl rfl ⟨rfl, rfl, rfl, rfl, rfl⟩ rfl rfl rfl rfl rfl (by as_aux_lemma => kernel_rfl) Tryz.func3
    (andI (andI (andI (andI (andI (andI (andI (andI (andI (andI (andI (andI (andI (andI (andI (andI (andI (andI (andI (andI (andI (andI (andI (andI (andI (andI (andI (andI (andI (andI (andI ((by as_aux_lemma => kernel_rfl))
      (by as_aux_lemma => kernel_rfl))
      (by as_aux_lemma => kernel_rfl))
      (by as_aux_lemma => kernel_rfl))
      (by as_aux_lemma => kernel_rfl))
      (by as_aux_lemma => kernel_rfl))
      (by as_aux_lemma => kernel_rfl))
      (by as_aux_lemma => kernel_rfl))
      (by as_aux_lemma => kernel_rfl))
      (by as_aux_lemma => kernel_rfl))
      (by as_aux_lemma => kernel_rfl))
      (by as_aux_lemma => kernel_rfl))
      (by as_aux_lemma => kernel_rfl))
      (by as_aux_lemma => kernel_rfl))
      (by as_aux_lemma => kernel_rfl))
      (by as_aux_lemma => kernel_rfl))
      (by as_aux_lemma => kernel_rfl))
      (by as_aux_lemma => kernel_rfl))
      (by as_aux_lemma => kernel_rfl))
      (by as_aux_lemma => kernel_rfl))
      (by as_aux_lemma => kernel_rfl))
      (by as_aux_lemma => kernel_rfl))
      (by as_aux_lemma => kernel_rfl))
      (by as_aux_lemma => kernel_rfl))
      (by as_aux_lemma => kernel_rfl))
      (by as_aux_lemma => kernel_rfl))
      (by as_aux_lemma => kernel_rfl))
      (by as_aux_lemma => kernel_rfl))
      (by as_aux_lemma => kernel_rfl))
      (by as_aux_lemma => kernel_rfl))
      (by as_aux_lemma => kernel_rfl))
      (by as_aux_lemma => kernel_rfl))
    (by as_aux_lemma => exact of_decide_eq_true (by kernel_rfl)) (by as_aux_lemma => (unfold Func.isWrapper; first | (rw [if_pos (by decide +kernel)]; kernel_rfl) | (rw [if_neg (by decide +kernel)]; exact ⟨rfl, rfl⟩)))
    (fun os started H enc _ => lifted os started H enc)
#print axioms proved
end Go.Proofs.YtkcmjgjfodipfaaGreat.measureFullDone
