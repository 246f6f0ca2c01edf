import Derived.Test.YtdfimjgbdipnjaaS2
namespace Go.Proofs.Ytdfimjgbdipnjaa
open Go Go.Sep Go.Proofs
set_option maxRecDepth 10000
set_option maxHeartbeats 1000000
set_option linter.unusedSimpArgs false
set_option linter.unusedVariables false

theorem hear_rest (n : Nat) (s : CS) (m : Mg) (h : ¬ (s.m.kind = 1 ∧ m.kind = 7 ∧ s.greatest < m.session)) (h1 : s.m.number ≠ 0) (h2 : m.session = s.m.session) (h3 : m.number = s.m.number) :
    Con Try.prog 14 #[ptr n, .agg m.row.toArray] (CalB n s) fun v A =>
      v = .int .i64 (if m.kind = 8 then 2 else if fitsB s.m.kind m.kind then 3 else 0) ∧ A = CalB n (if m.kind = 8 then { s with m := Mg.zero, timer := 0, session := 0, last := 0, greatest := max s.greatest 0 } else if fitsB s.m.kind m.kind then { s with m := Mg.zero, timer := 0 } else s) := by
  obtain ⟨k, ss, nn, jj, bd, ix, ct, cd, bt, tx, pg⟩ := m
  dsimp only [Mg.row] at *
  refine Con.intro (vs := [_, _]) Try.func14 rfl Try.ntmps14 rfl (fun B => ?_)
  refine Cd.seq ?_
  refine Cd.reg ?_
  refine Ops.box rfl rfl rfl rfl (noPd rfl) (fun b => ?_)
  refine Ops.asg rfl rfl rfl rfl ?_
  refine Ops.nil ?_
  refine Cd.cut (σ := Unit) (fun _ => True) (fun _ => [(0, ptr n), (3, ptr b)]) (fun _ => (b, cl [.int .i64 k, .int .i64 ss, .int .i64 nn, .int .i64 jj, .int .i64 bd, .int .i64 ix, .int .i64 ct, .int .i64 cd, .int .u64 bt, .string tx, .string pg] 32) :: CalB n s) ?_ (fun _ _ => ?_)
  · repeat' (first | refine Cd.seq ?_)
    refine Cd.draw [(0, 0, []), (1, 0, []), (2, 0, []), (3, 0, []), (4, 0, []), (5, 1, []), (6, 0, []), (7, 0, []), (8, 0, []), (9, 1, []), (10, 0, []), (11, 0, []), (12, 0, []), (13, 0, []), (14, 1, []), (15, 0, []), (16, 0, []), (17, 0, []), (18, 1, []), (19, 0, []), (20, 0, [])] (by kernel_rfl) (by kernel_rfl) (by simp only [picked, nth]; exact rfl) ?_
    repeat' (first | refine Ops.nil ?_ | refine Ops.mv rfl rfl rfl rfl ?_ | refine Ops.nilP rfl rfl rfl rfl ?_ | refine Ops.fa0 rfl rfl rfl rfl ?_ | refine Ops.ld1 rfl rfl rfl rfl rfl ?_ | refine Ops.bin rfl rfl rfl rfl rfl ?_ | refine Ops.pickT rfl rfl rfl rfl rfl ?_ | refine Ops.pickF rfl rfl rfl rfl rfl ?_ | refine Ops.gSkip rfl rfl rfl ?_ | refine Cd.condF rfl rfl ?_ | refine Cd.condF rfl (by first | rfl | assumption | (simp only [decide_eq_true_eq, decide_eq_false_iff_not, Bool.not_eq_true', Bool.not_eq_false', Bool.not_eq_eq_eq_not, Bool.not_true, Bool.not_false, beq_iff_eq, beq_eq_false_iff_ne, ne_eq, decide_eq_decide, eq_self, true_iff, iff_true, not_true_eq_false, not_false_eq_true]; first | done | omega)) ?_ | ((fail_if_success refine Ops.probe rfl ?_); refine Ops.gSplit rfl rfl (fun hc => ?_) (fun hc => ?_) <;> (try simp only [decide_eq_true_eq, decide_eq_false_iff_not, Bool.not_eq_true', Bool.not_eq_false', Bool.not_eq_eq_eq_not, Bool.not_true, Bool.not_false, Int.not_lt, Int.not_le] at hc)))
    all_goals exact Cd.skip (meet_end (Q := fun _ _ _ => True) () trivial ⟨rfl, rfl, trivial⟩ (fun w h => h))
  clear h
  repeat' (first | refine Cd.seq ?_)
  refine Cd.draw [(0, 0, []), (1, 0, []), (2, 0, []), (3, 2, []), (4, 0, []), (5, 0, []), (6, 0, []), (7, 1, []), (8, 0, []), (9, 0, []), (10, 0, []), (11, 0, []), (12, 0, []), (13, 1, []), (14, 0, []), (15, 0, []), (16, 0, []), (17, 0, []), (18, 1, []), (19, 0, []), (20, 0, []), (21, 0, []), (22, 0, []), (23, 0, []), (24, 1, []), (25, 0, []), (26, 0, [])] (by kernel_rfl) (by kernel_rfl) (by simp only [picked, nth]; exact rfl) ?_
  repeat' (first | refine Ops.mv rfl rfl rfl rfl ?_ | refine Ops.nilP rfl rfl rfl rfl ?_ | refine Ops.fa0 rfl rfl rfl rfl ?_)
  refine Ops.call (waits_spec n s) rfl (noPd rfl) rfl rfl rfl (fun v A' hR => ?_)
  obtain ⟨rfl, rfl⟩ := hR
  by_cases hk : k = 8
  · rw [if_pos hk, if_pos hk]
    repeat' (first | refine Cd.seq ?_ | refine Cd.reg ?_ | refine Ops.nil ?_ | refine Ops.mv rfl rfl rfl rfl ?_ | refine Ops.asg rfl rfl rfl rfl ?_ | refine Ops.nilP rfl rfl rfl rfl ?_ | refine Ops.fa0 rfl rfl rfl rfl ?_ | refine Ops.ld1 rfl rfl rfl rfl rfl ?_ | refine Ops.bin rfl rfl rfl rfl rfl ?_ | refine Ops.pickF rfl rfl rfl rfl rfl ?_ | refine Ops.bld rfl rfl rfl rfl ?_ | refine Cd.block ?_ | refine Cd.skip (Cd.next ?_) | refine Cd.condT rfl (by first | rfl | assumption | (simp only [decide_eq_true_eq, decide_eq_false_iff_not, Bool.not_eq_true', Bool.not_eq_false', Bool.not_eq_eq_eq_not, Bool.not_true, Bool.not_false, beq_iff_eq, beq_eq_false_iff_ne, ne_eq, decide_eq_decide, eq_self, true_iff, iff_true, not_true_eq_false, not_false_eq_true]; first | done | omega)) ?_ | refine Cd.condF rfl (by first | rfl | assumption | (simp only [decide_eq_true_eq, decide_eq_false_iff_not, Bool.not_eq_true', Bool.not_eq_false', Bool.not_eq_eq_eq_not, Bool.not_true, Bool.not_false, beq_iff_eq, beq_eq_false_iff_ne, ne_eq, decide_eq_decide, eq_self, true_iff, iff_true, not_true_eq_false, not_false_eq_true]; first | done | omega)) ?_ | ((fail_if_success refine Ops.probe rfl ?_); refine Ops.gF rfl rfl (by first | rfl | assumption | (simp only [decide_eq_true_eq, decide_eq_false_iff_not, Bool.not_eq_true', Bool.not_eq_false', Bool.not_eq_eq_eq_not, Bool.not_true, Bool.not_false, beq_iff_eq, beq_eq_false_iff_ne, ne_eq, decide_eq_decide, eq_self, true_iff, iff_true, not_true_eq_false, not_false_eq_true]; first | done | omega)) ?_))
    refine Ops.call (begin_spec n s Mg.zero) rfl (noPd rfl) rfl rfl rfl (fun v A' hR => ?_)
    obtain rfl := hR
    repeat' (first | refine Cd.seq ?_ | refine Cd.reg ?_ | refine Ops.mv rfl rfl rfl rfl ?_)
    refine Ops.call (enter_spec n { s with m := Mg.zero, timer := 0 } 0) rfl (noPd rfl) rfl rfl rfl (fun v A' hR => ?_)
    obtain rfl := hR
    repeat' (first | refine Cd.seq ?_ | refine Cd.reg ?_ | refine Ops.nil ?_ | refine Ops.asg rfl rfl rfl rfl ?_)
    exact Cd.ret (ret1 rfl (Res.tmp rfl) (fun _ h => h.split) ⟨rfl, rfl⟩)
  · rw [if_neg hk, if_neg hk]
    repeat' (first | refine Cd.seq ?_ | refine Cd.reg ?_ | refine Ops.nil ?_ | refine Ops.mv rfl rfl rfl rfl ?_ | refine Ops.asg rfl rfl rfl rfl ?_ | refine Ops.nilP rfl rfl rfl rfl ?_ | refine Ops.fa0 rfl rfl rfl rfl ?_ | refine Ops.ld1 rfl rfl rfl rfl rfl ?_ | refine Ops.bin rfl rfl rfl rfl rfl ?_ | refine Ops.pickF rfl rfl rfl rfl rfl ?_ | refine Cd.block ?_ | refine Cd.skip (Cd.next ?_) | refine Cd.condF rfl (by first | rfl | assumption | (simp only [decide_eq_true_eq, decide_eq_false_iff_not, Bool.not_eq_true', Bool.not_eq_false', Bool.not_eq_eq_eq_not, Bool.not_true, Bool.not_false, beq_iff_eq, beq_eq_false_iff_ne, ne_eq, decide_eq_decide, eq_self, true_iff, iff_true, not_true_eq_false, not_false_eq_true]; first | done | omega)) ?_ | ((fail_if_success refine Ops.probe rfl ?_); refine Ops.gF rfl rfl (by first | rfl | assumption | (simp only [decide_eq_true_eq, decide_eq_false_iff_not, Bool.not_eq_true', Bool.not_eq_false', Bool.not_eq_eq_eq_not, Bool.not_true, Bool.not_false, beq_iff_eq, beq_eq_false_iff_ne, ne_eq, decide_eq_decide, eq_self, true_iff, iff_true, not_true_eq_false, not_false_eq_true]; first | done | omega)) ?_))
    refine Cd.draw [(0, 0, []), (1, 0, []), (2, 0, []), (3, 0, []), (4, 0, []), (5, 1, []), (6, 0, []), (7, 1, []), (8, 2, []), (9, 0, [])] (by kernel_rfl) (by kernel_rfl) (by simp only [picked, nth]; exact rfl) ?_
    repeat' (first | refine Ops.mv rfl rfl rfl rfl ?_ | refine Ops.nilP rfl rfl rfl rfl ?_ | refine Ops.fa0 rfl rfl rfl rfl ?_ | refine Ops.ld1 rfl rfl rfl rfl rfl ?_)
    refine Ops.call (fits_spec s.m.kind k) rfl (noPd rfl) rfl rfl rfl (fun v A' hR => ?_)
    obtain ⟨rfl, rfl⟩ := hR
    by_cases hf : fitsB s.m.kind k = true
    · rw [if_pos hf, if_pos hf, hf]
      repeat' (first | refine Cd.seq ?_ | refine Cd.reg ?_ | refine Ops.nil ?_ | refine Ops.mv rfl rfl rfl rfl ?_ | refine Ops.asg rfl rfl rfl rfl ?_ | refine Ops.nilP rfl rfl rfl rfl ?_ | refine Ops.fa0 rfl rfl rfl rfl ?_ | refine Ops.bld rfl rfl rfl rfl ?_ | refine Cd.condT rfl rfl ?_)
      refine Ops.call (begin_spec n s Mg.zero) rfl (noPd rfl) rfl rfl rfl (fun v A' hR => ?_)
      obtain rfl := hR
      repeat' (first | refine Cd.seq ?_ | refine Cd.reg ?_ | refine Ops.nil ?_ | refine Ops.asg rfl rfl rfl rfl ?_)
      exact Cd.ret (ret1 rfl (Res.tmp rfl) (fun _ h => h.split) ⟨rfl, rfl⟩)
    · rw [if_neg hf, if_neg hf]
      rw [Bool.not_eq_true] at hf
      rw [hf]
      repeat' (first | refine Cd.seq ?_ | refine Cd.reg ?_ | refine Ops.nil ?_ | refine Ops.asg rfl rfl rfl rfl ?_ | refine Cd.condF rfl rfl ?_ | refine Cd.skip (Cd.next (Q' := fun _ _ _ => True) ?_))
      exact Cd.ret (ret1 rfl (Res.tmp rfl) (fun _ h => h.split) ⟨rfl, rfl⟩)
end Go.Proofs.Ytdfimjgbdipnjaa
