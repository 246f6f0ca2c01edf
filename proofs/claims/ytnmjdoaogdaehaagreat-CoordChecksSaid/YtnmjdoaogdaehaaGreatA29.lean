import Derived.Test.YtnmjdoaogdaehaaGreatA28
namespace Go.Proofs.YtnmjdoaogdaehaaGreat
open Go Go.Sep Go.Proofs
set_option maxRecDepth 10000
set_option maxHeartbeats 40000000
set_option synthInstance.maxSize 2000
set_option linter.unusedSimpArgs false
set_option linter.unusedVariables false
/-! a coordinator on a disk of noughts; is it dead? -/
theorem new_new (B0 : Base) (c : Cf) (hc : CfOk c) (db : Nat) (x x1 : Dk) (k : Nat) (D : List Blk) (hD : DkA db x k D) (hk : k < 900000000000) (hf : (x.S.length : Int) = 2 + 2 * c.half) (hfm : formatF x = (x1, 0)) (hf1 : (x1.S.length : Int) = 2 + 2 * c.half) (h : Hd) (how : openW x1 = (some (h, ⟨#[]⟩, []), 0)) :
    ConB Tryz.prog B0 10 #[.agg c.row.toArray, ptr db] D (fun v A => ∃ D', DkA db x1 (k + 1) D' ∧ OpenN c db D' h v A) := by
  refine ConB.intro (vs := [_, _]) Tryz.func10 rfl Tryz.ntmps10 rfl (fun B hB => ?_)
  have hfit : fitsF c x = true := by unfold fitsF; rw [show checkC c = 0 from if_pos hc]; simp [hf]
  repeat' (first | refine Cd.seq ?_ | refine Cd.reg ?_ | refine Ops.mv rfl rfl rfl rfl ?_ | refine Ops.asg rfl rfl rfl rfl ?_ | refine Ops.ldN rfl rfl rfl rfl ?_ | refine Ops.box rfl rfl rfl rfl (noPd rfl) (fun b => ?_))
  rename Nat => bc
  refine Ops.call (fits_spec c db x k D hD) rfl (noPd rfl) rfl rfl rfl (fun v A' hR => ?_)
  obtain ⟨rfl, e⟩ := hR
  subst A'
  rw [hfit]
  repeat' (first | refine Cd.seq ?_ | refine Cd.reg ?_ | refine Ops.nil ?_ | refine Ops.mv rfl rfl rfl rfl ?_ | refine Ops.un rfl rfl rfl rfl ?_ | refine Cd.condF rfl rfl ?_ | refine Cd.skip (Cd.next ?_))
  refine Ops.callB (format_spec B0 db x k D hD hk) hB rfl (noPd rfl) rfl rfl rfl (fun v A' hR => ?_)
  rw [hfm] at hR
  obtain ⟨rfl, hD1⟩ := hR
  rename List Blk => D1
  repeat' (first | refine Cd.seq ?_ | refine Cd.reg ?_ | refine Ops.nil ?_ | refine Ops.mv rfl rfl rfl rfl ?_ | refine Ops.asg rfl rfl rfl rfl ?_ | refine Ops.ldN rfl rfl rfl rfl ?_ | refine Ops.bin rfl rfl rfl rfl rfl ?_ | refine Cd.condT rfl rfl ?_ | refine Cd.block ?_ | refine Cd.skip (Cd.next (Q' := fun _ _ _ => True) ?_))
  refine Ops.callB (open_new B0 c hc db x1 (k + 1) D1 hD1 hf1 h how) hB rfl (noPd rfl) rfl rfl rfl (fun v A' hR => ?_)
  obtain ⟨xb, lb, lm, tb, cb, mb, wb, sb, sv, G, SD, rfl, rfl, hO, hS⟩ := hR
  repeat' (first | refine Ops.nil ?_ | refine Ops.asg rfl rfl rfl rfl ?_ | refine Ops.ext rfl rfl rfl rfl rfl ?_)
  exact Cd.ret (ret2 (A' := CoN xb lb lm tb cb mb db wb sb c sv G SD D1 h) rfl (Res.tmp rfl) (Res.tmp rfl) (fun _ h => h.split) ⟨D1, hD1, xb, lb, lm, tb, cb, mb, wb, sb, sv, G, SD, rfl, rfl, hO, hS⟩)
theorem lives_spec (xb lb tb cb mb db wb sb : Nat) (c : Cf) (tv : Value) (dead : Bool) (x : Dk) (k : Nat) (D : List Blk) (hD : DkA db x k D) :
    Con Tryz.prog 31 #[ptr xb] (CoB xb lb tb cb mb db wb sb c tv dead :: D) fun v A => v = .bool (!(dead || x.de)) ∧ A = CoB xb lb tb cb mb db wb sb c tv (dead || x.de) :: D := by
  refine Con.intro (vs := [_]) Tryz.func31 rfl Tryz.ntmps31 rfl (fun B => ?_)
  cases dead with
  | true =>
    repeat' (first | refine Cd.seq ?_ | refine Cd.reg ?_ | refine Ops.nil ?_ | refine Ops.mv rfl rfl rfl rfl ?_ | refine Ops.asg rfl rfl rfl rfl ?_ | refine Ops.nilP rfl rfl rfl rfl ?_ | refine Ops.fa0 rfl rfl rfl rfl ?_ | refine Ops.ld1 rfl rfl rfl rfl rfl ?_ | refine Ops.un rfl rfl rfl rfl ?_ | refine Ops.pickT rfl rfl rfl rfl rfl ?_ | refine Ops.st1 rfl rfl rfl rfl rfl (noPd rfl) ?_ | refine Ops.gSkip rfl rfl rfl ?_)
    exact Cd.ret (ret1 (A' := CoB xb lb tb cb mb db wb sb c tv true :: D) rfl (Res.tmp rfl) (fun _ h => h.split) ⟨rfl, rfl⟩)
  | false =>
    repeat' (first | refine Cd.seq ?_ | refine Cd.reg ?_ | refine Ops.mv rfl rfl rfl rfl ?_ | refine Ops.asg rfl rfl rfl rfl ?_ | refine Ops.nilP rfl rfl rfl rfl ?_ | refine Ops.fa0 rfl rfl rfl rfl ?_ | refine Ops.ld1 rfl rfl rfl rfl rfl ?_)
    refine Ops.call (ddead_spec db x.S x.ar x.bd x.de k D hD.a) rfl (noPd rfl) rfl rfl rfl (fun v A' hR => ?_)
    obtain ⟨rfl, e⟩ := hR
    subst A'
    repeat' (first | refine Cd.seq ?_ | refine Cd.reg ?_ | refine Ops.nil ?_ | refine Ops.mv rfl rfl rfl rfl ?_ | refine Ops.asg rfl rfl rfl rfl ?_ | refine Ops.nilP rfl rfl rfl rfl ?_ | refine Ops.fa0 rfl rfl rfl rfl ?_ | refine Ops.ld1 rfl rfl rfl rfl rfl ?_ | refine Ops.un rfl rfl rfl rfl ?_ | refine Ops.pickF rfl rfl rfl rfl rfl ?_ | refine Ops.st1 rfl rfl rfl rfl rfl (noPd rfl) ?_)
    exact Cd.ret (ret1 (A' := CoB xb lb tb cb mb db wb sb c tv x.de :: D) rfl (Res.tmp rfl) (fun _ h => h.split) ⟨by rw [Bool.false_or], by rw [Bool.false_or]⟩)
theorem cdead_spec (xb lb tb cb mb db wb sb : Nat) (c : Cf) (tv : Value) (dead : Bool) (x : Dk) (k : Nat) (D : List Blk) (hD : DkA db x k D) :
    Con Tryz.prog 16 #[ptr xb] (CoB xb lb tb cb mb db wb sb c tv dead :: D) fun v A => v = .bool (dead || x.de) ∧ A = CoB xb lb tb cb mb db wb sb c tv (dead || x.de) :: D := by
  refine Con.intro (vs := [_]) Tryz.func16 rfl Tryz.ntmps16 rfl (fun B => ?_)
  repeat' (first | refine Cd.seq ?_ | refine Cd.reg ?_ | refine Ops.mv rfl rfl rfl rfl ?_ | refine Ops.asg rfl rfl rfl rfl ?_)
  refine Ops.call (lives_spec xb lb tb cb mb db wb sb c tv dead x k D hD) rfl (noPd rfl) rfl rfl rfl (fun v A' hR => ?_)
  obtain ⟨rfl, rfl⟩ := hR
  generalize (dead || x.de) = dd
  repeat' (first | refine Ops.nil ?_ | refine Ops.asg rfl rfl rfl rfl ?_ | refine Ops.un rfl rfl rfl rfl ?_ | fail)
  exact Cd.ret (ret1 (A' := CoB xb lb tb cb mb db wb sb c tv dd :: D) rfl (Res.tmp rfl) (fun _ h => h.split) ⟨by rw [Bool.not_not], rfl⟩)
end Go.Proofs.YtnmjdoaogdaehaaGreat
