/- Proved: CoordWaits returns true whatever the config and the number, and the input reads as it did (Rows.CoordWaitsSaid). Conditions: none. -/
import Derived.Test.YtkoelgkghijgiaaGreatI01
set_option linter.unusedVariables false
set_option linter.unusedSimpArgs false
namespace Go.Proofs.YtkoelgkghijgiaaGreat.coordWaitsDone
open Go Go.Sep Go.Proofs Go.Proofs.Tryz
set_option maxHeartbeats 40000000
theorem andI {a b:Bool} (h1:a = true) (h2:b = true):(a && b) = true:=by rw [h1,h2];rfl
theorem proved:Rows.CoordWaitsSaid :=
 OpenClaim.holds_of_wide 7 Tryz.f7 rfl rfl rfl rfl rfl rfl rfl ⟨rfl,rfl,rfl,rfl,rfl⟩ rfl rfl rfl rfl rfl (by as_aux_lemma=>kernel_rfl) func7
  (andI (andI (andI (andI (andI (andI (andI (andI (andI (andI (andI (andI (andI (andI (andI (andI (andI (andI (andI (andI (andI (andI (andI (andI (andI (andI (andI (andI (andI (andI (andI ((by as_aux_lemma=>kernel_rfl))
   (by as_aux_lemma=>kernel_rfl))
   (by as_aux_lemma=>kernel_rfl))
   (by as_aux_lemma=>kernel_rfl))
   (by as_aux_lemma=>kernel_rfl))
   (by as_aux_lemma=>kernel_rfl))
   (by as_aux_lemma=>kernel_rfl))
   (by as_aux_lemma=>kernel_rfl))
   (by as_aux_lemma=>kernel_rfl))
   (by as_aux_lemma=>kernel_rfl))
   (by as_aux_lemma=>kernel_rfl))
   (by as_aux_lemma=>kernel_rfl))
   (by as_aux_lemma=>kernel_rfl))
   (by as_aux_lemma=>kernel_rfl))
   (by as_aux_lemma=>kernel_rfl))
   (by as_aux_lemma=>kernel_rfl))
   (by as_aux_lemma=>kernel_rfl))
   (by as_aux_lemma=>kernel_rfl))
   (by as_aux_lemma=>kernel_rfl))
   (by as_aux_lemma=>kernel_rfl))
   (by as_aux_lemma=>kernel_rfl))
   (by as_aux_lemma=>kernel_rfl))
   (by as_aux_lemma=>kernel_rfl))
   (by as_aux_lemma=>kernel_rfl))
   (by as_aux_lemma=>kernel_rfl))
   (by as_aux_lemma=>kernel_rfl))
   (by as_aux_lemma=>kernel_rfl))
   (by as_aux_lemma=>kernel_rfl))
   (by as_aux_lemma=>kernel_rfl))
   (by as_aux_lemma=>kernel_rfl))
   (by as_aux_lemma=>kernel_rfl))
   (by as_aux_lemma=>kernel_rfl))
  (by as_aux_lemma=>exact of_decide_eq_true (by kernel_rfl)) (by as_aux_lemma=>(unfold Func.isWrapper;first|(rw [if_pos (by decide +kernel)];kernel_rfl)|(rw [if_neg (by decide +kernel)];exact ⟨rfl,rfl⟩)))
  (fun os started H enc _=>lifted os started H enc)
#print axioms proved
end Go.Proofs.YtkoelgkghijgiaaGreat.coordWaitsDone
