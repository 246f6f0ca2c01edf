/- Proved: CoordHeedless returns true whatever the config and the script, and the input reads as it did, where what it reads is of bulk at most 1048576 (Rows.CoordHeedlessUptoSaid). Conditions: that bulk alone. -/
import Derived.Test.YtkoelgkghijgiaaGreatH01
set_option linter.unusedVariables false
set_option linter.unusedSimpArgs false
namespace Go.Proofs.YtkoelgkghijgiaaGreat.coordHeedlessDone
open Go Go.Sep Go.Proofs Go.Proofs.Tryz
set_option maxHeartbeats 40000000
theorem andI {a b:Bool} (h1:a = true) (h2:b = true):(a && b) = true:=by rw [h1,h2];rfl
theorem proved:Rows.CoordHeedlessUptoSaid :=
 OpenClaim.holds_of_cond 6 Tryz.f6 rfl rfl rfl rfl rfl rfl rfl ⟨rfl,rfl,rfl,rfl,rfl⟩ rfl rfl rfl rfl rfl (by as_aux_lemma=>kernel_rfl) func6
  (andI (andI (andI (andI (andI (andI (andI (andI (andI (andI (andI (andI (andI (andI (andI (andI (andI (andI (andI (andI (andI (andI (andI (andI (andI (andI (andI (andI (andI (andI (andI (by as_aux_lemma=>kernel_rfl)
   (by as_aux_lemma=>kernel_rfl))
   (by as_aux_lemma=>kernel_rfl))
   (by as_aux_lemma=>kernel_rfl))
   (by as_aux_lemma=>kernel_rfl))
   (by as_aux_lemma=>kernel_rfl))
   (by as_aux_lemma=>kernel_rfl))
   (by as_aux_lemma=>kernel_rfl))
   (by as_aux_lemma=>kernel_rfl))
   (by as_aux_lemma=>kernel_rfl))
   (by as_aux_lemma=>kernel_rfl))
   (by as_aux_lemma=>kernel_rfl))
   (by as_aux_lemma=>kernel_rfl))
   (by as_aux_lemma=>kernel_rfl))
   (by as_aux_lemma=>kernel_rfl))
   (by as_aux_lemma=>kernel_rfl))
   (by as_aux_lemma=>kernel_rfl))
   (by as_aux_lemma=>kernel_rfl))
   (by as_aux_lemma=>kernel_rfl))
   (by as_aux_lemma=>kernel_rfl))
   (by as_aux_lemma=>kernel_rfl))
   (by as_aux_lemma=>kernel_rfl))
   (by as_aux_lemma=>kernel_rfl))
   (by as_aux_lemma=>kernel_rfl))
   (by as_aux_lemma=>kernel_rfl))
   (by as_aux_lemma=>kernel_rfl))
   (by as_aux_lemma=>kernel_rfl))
   (by as_aux_lemma=>kernel_rfl))
   (by as_aux_lemma=>kernel_rfl))
   (by as_aux_lemma=>kernel_rfl))
   (by as_aux_lemma=>kernel_rfl))
   (by as_aux_lemma=>kernel_rfl))
  (by as_aux_lemma=>exact of_decide_eq_true (by kernel_rfl)) (by as_aux_lemma=>(unfold Func.isWrapper;first|(rw [if_pos (by decide +kernel)];kernel_rfl)|(rw [if_neg (by decide +kernel)];exact ⟨rfl,rfl⟩)))
  (fun os started H enc _ F=>lifted os started H enc F)
#print axioms proved
end Go.Proofs.YtkoelgkghijgiaaGreat.coordHeedlessDone
