import Derived.Test.YtnmjdoaogdaehaaGreatA23
namespace Go.Proofs.YtnmjdoaogdaehaaGreat
open Go Go.Sep Go.Proofs
set_option maxRecDepth 10000
set_option maxHeartbeats 40000000
set_option synthInstance.maxSize 2000
set_option linter.unusedSimpArgs false
set_option linter.unusedVariables false
/-! may a change be? -/
def rgt (h z m : Bool) : Bool := if h then m else z
theorem rgt_spec (h z m : Bool) : Con Tryz.prog 182 #[.bool h, .bool z, .bool m] [] fun v A => v = .bool (rgt h z m) ∧ A = [] := right_spec h z m
def rg1 (c : Ch) : Bool := rgt (hasC (hasS c.kind) 110) (decide (c.n = 0)) (decide (1 ≤ c.n ∧ c.n ≤ 1099511627776))
def rg2 (c : Ch) : Bool := rgt (hasC (hasS c.kind) 106) (decide (c.job = 0)) (decide (1 ≤ c.job ∧ c.job ≤ 8))
def rg3 (c : Ch) : Bool := rgt (hasC (hasS c.kind) 112) (decide (c.prog = ⟨#[]⟩)) (decide ((1 : Int) ≤ (c.prog.size : Nat) ∧ ((c.prog.size : Nat) : Int) ≤ 1024))
def rg4 (c : Ch) : Bool := rgt (hasC (hasS c.kind) 98) (decide (c.badge = 0)) (decide (1 ≤ c.badge ∧ c.badge ≤ 1099511627776))
def rg5 (c : Ch) : Bool := rgt (hasC (hasS c.kind) 115) (decide (c.slot = 0) && decide (c.life = 0)) (decide (0 ≤ c.slot ∧ c.slot ≤ 7) && decide (1 ≤ c.life ∧ c.life ≤ 1099511627776))
def rg6 (c : Ch) : Bool := rgt (hasC (hasS c.kind) 116) (decide (((c.txs.length : Nat) : Int) = 0)) (textsF c.txs)
def rg7 (c : Ch) : Bool := rgt (hasC (hasS c.kind) 114) (decide (c.rcode = 0) && (decide (c.rbits = 0) && true)) (decide (0 ≤ c.rcode ∧ c.rcode ≤ 7) && (decide (c.rcode = 0) || decide (c.rbits = 0)))
def checkF (c : Ch) : Int := if ¬ (1 ≤ c.kind ∧ c.kind ≤ 6) then 80 else if rg1 c && (rg2 c && (rg3 c && (rg4 c && (rg5 c && (rg6 c && rg7 c))))) then 0 else 81
theorem rcheck_spec (B0 : Base) (c : Ch) (a : Option Addr) (k : Nat) (hS : SIn B0 a c.txs) (hl : c.txs.length ≤ 2000000) :
    ConB Tryz.prog B0 122 #[.agg (c.row a k).toArray] [] fun v A => v = .int .i64 (checkF c) ∧ A = [] := by
  refine ConB.intro (vs := [_]) Tryz.func122 rfl Tryz.ntmps122 rfl (fun B hx => ?_)
  repeat' (first | refine Cd.seq ?_ | refine Cd.reg ?_ | refine Ops.asg rfl rfl rfl rfl ?_ | refine Ops.fa0 rfl rfl rfl rfl ?_ | refine Ops.ld1 rfl rfl rfl rfl rfl ?_ | refine Ops.box rfl rfl rfl rfl (noPd rfl) (fun b => ?_))
  rename Nat => cb
  refine Ops.call (rin_spec c.kind 1 6) rfl (noPd rfl) rfl rfl rfl (fun v A' hR => ?_)
  obtain ⟨rfl, rfl⟩ := hR
  by_cases hk : 1 ≤ c.kind ∧ c.kind ≤ 6
  case neg =>
    rw [decide_eq_false hk, show checkF c = 80 from if_pos hk]
    repeat' (first | refine Cd.seq ?_ | refine Cd.reg ?_ | refine Ops.nil ?_ | refine Ops.asg rfl rfl rfl rfl ?_ | refine Ops.un rfl rfl rfl rfl ?_ | refine Cd.condT rfl rfl ?_)
    exact Cd.ret (ret1 (A' := []) rfl (Res.tmp rfl) (fun _ h => h.split) ⟨rfl, rfl⟩)
  rw [decide_eq_true hk]
  have hck : checkF c = if rg1 c && (rg2 c && (rg3 c && (rg4 c && (rg5 c && (rg6 c && rg7 c))))) then 0 else 81 := if_neg (not_not_intro hk)
  rw [hck]
  clear hck
  repeat' (first | refine Ops.mkF rfl rfl rfl rfl rfl ?_ | refine Cd.seq ?_ | refine Cd.reg ?_ | refine Ops.nil ?_ | refine Ops.asg rfl rfl rfl rfl ?_ | refine Ops.fa0 rfl rfl rfl rfl ?_ | refine Ops.ldN rfl rfl rfl rfl ?_ | refine Ops.un rfl rfl rfl rfl ?_ | refine Ops.alloc rfl rfl rfl (noPd rfl) (fun b => ?_) | refine Ops.stN rfl rfl rfl rfl rfl rfl (noPd rfl) ?_ | refine Cd.condF rfl rfl ?_ | refine Cd.skip (Cd.next ?_))
  rename Nat => xb
  dsimp only [List.append]
  refine Cd.draw [(0, 0, []), (2, 0, []), (3, 1, []), (4, 0, []), (5, 0, []), (6, 1, []), (1, 2, [3, 6]), (7, 2, [3]), (8, 2, []), (9, 0, []), (10, 0, []), (12, 0, []), (13, 1, []), (14, 0, []), (15, 0, []), (16, 1, []), (11, 2, [13, 16]), (17, 2, [13]), (18, 2, []), (19, 0, []), (20, 0, []), (21, 0, []), (23, 0, []), (24, 1, []), (25, 0, []), (26, 0, []), (27, 1, []), (28, 0, []), (22, 2, [24, 27]), (29, 2, [24]), (30, 2, []), (31, 0, []), (32, 0, []), (33, 0, []), (35, 0, []), (36, 1, []), (37, 0, []), (38, 0, []), (39, 1, []), (34, 2, [36, 39]), (40, 2, [36]), (41, 2, []), (42, 0, []), (43, 0, []), (44, 0, []), (46, 0, []), (47, 1, []), (48, 0, []), (54, 0, []), (55, 1, []), (45, 2, [47, 55]), (49, 0, []), (50, 0, []), (51, 1, []), (52, 0, []), (53, 0, []), (56, 2, [51]), (57, 0, []), (58, 0, []), (59, 1, []), (60, 2, [51]), (61, 0, []), (62, 2, []), (63, 0, []), (64, 0, []), (65, 0, []), (67, 0, []), (68, 1, []), (69, 1, []), (70, 0, []), (71, 0, []), (72, 1, []), (66, 2, [68, 69, 72]), (73, 2, [68, 69]), (74, 2, []), (75, 0, []), (76, 0, []), (77, 0, []), (79, 1, []), (80, 0, []), (81, 0, []), (82, 0, []), (83, 1, []), (78, 2, [79, 83]), (84, 2, [79]), (85, 0, []), (86, 0, []), (87, 1, []), (88, 0, []), (89, 0, []), (90, 0, []), (91, 1, []), (92, 0, []), (93, 0, []), (94, 0, []), (95, 2, []), (96, 0, [])] (by kernel_rfl) (by kernel_rfl) (by simp only [picked, nth]; exact rfl) ?_
  repeat' (first | refine Ops.mv rfl rfl rfl rfl ?_ | refine Ops.fa0 rfl rfl rfl rfl ?_ | refine Ops.ld1 rfl rfl rfl rfl rfl ?_ | refine Ops.bin rfl rfl rfl rfl rfl ?_ | fail)
  refine Ops.callV (fi := []) (ca := [ptr cb]) (vs := [_]) (check1_spec cb c a k _ 110 rfl) rfl (by first | exact noPd rfl | (intro v A' hR i hi; obtain ⟨A2, hR, rfl⟩ := hR; (try obtain ⟨rfl, rfl⟩ := hR); (repeat (rcases List.mem_cons.1 hi with rfl | hi; · (first | exact Still.ld1 rfl rfl rfl rfl rfl | exact Still.ldN rfl rfl rfl rfl | exact Still.len rfl rfl rfl rfl rfl | exact Still.skip rfl rfl rfl | exact Still.skipU rfl rfl rfl rfl | exact Still.ldRow1 rfl rfl rfl (by assumption) (by assumption) rfl rfl | exact Still.ldR rfl rfl rfl (by apply_assumption) rfl))); cases hi)) rfl rfl rfl rfl (fun v A' hR => ?_)
  obtain ⟨rfl, rfl⟩ := hR
  skip
  refine Ops.call (rin_spec c.n 1 1099511627776) rfl (by first | exact noPd rfl | (intro v A' hR i hi; obtain ⟨A2, hR, rfl⟩ := hR; (try obtain ⟨rfl, rfl⟩ := hR); (repeat (rcases List.mem_cons.1 hi with rfl | hi; · (first | exact Still.ld1 rfl rfl rfl rfl rfl | exact Still.ldN rfl rfl rfl rfl | exact Still.len rfl rfl rfl rfl rfl | exact Still.skip rfl rfl rfl | exact Still.skipU rfl rfl rfl rfl | exact Still.ldRow1 rfl rfl rfl (by assumption) (by assumption) rfl rfl | exact Still.ldR rfl rfl rfl (by apply_assumption) rfl))); cases hi)) rfl rfl rfl (fun v A' hR => ?_)
  obtain ⟨rfl, rfl⟩ := hR
  skip
  refine Ops.call (rgt_spec _ _ _) rfl (noPd rfl) rfl rfl rfl (fun v A' hR => ?_)
  obtain ⟨rfl, rfl⟩ := hR
  rw [show rgt (hasC (hasS c.kind) 110) (decide (c.n = 0)) (decide (1 ≤ c.n ∧ c.n ≤ 1099511627776)) = rg1 c from rfl]
  cases hr1 : rg1 c with
  | false =>
    simp only [hr1, Bool.true_and, Bool.false_and, Bool.and_false, Bool.and_true, Bool.false_eq_true, if_false, if_true]
    repeat' (first | refine Cd.seq ?_ | refine Cd.reg ?_ | refine Ops.nil ?_ | refine Ops.mv rfl rfl rfl rfl ?_ | refine Ops.asg rfl rfl rfl rfl ?_ | refine Ops.pickF rfl rfl rfl rfl rfl ?_ | refine Ops.gSkip rfl rfl rfl ?_ | refine Ops.gSkipE rfl (by first | exact noPd rfl | (intro v A' hR i hi; obtain ⟨rfl, rfl⟩ := hR; (repeat (rcases List.mem_cons.1 hi with rfl | hi; · (first | exact Still.ld1 rfl rfl rfl rfl rfl | exact Still.ldN rfl rfl rfl rfl | exact Still.len rfl rfl rfl rfl rfl | exact Still.skip rfl rfl rfl | exact Still.skipU rfl rfl rfl rfl | exact Still.ldRow1 rfl rfl rfl (by assumption) (by assumption) rfl rfl | exact Still.ldR rfl rfl rfl (by apply_assumption) rfl))); cases hi)) rfl rfl ?_ | refine Ops.gSkipU rfl rfl rfl rfl ?_ | refine Ops.gSkipUE rfl (by first | exact noPd rfl | (intro v A' hR i hi; obtain ⟨rfl, rfl⟩ := hR; (repeat (rcases List.mem_cons.1 hi with rfl | hi; · (first | exact Still.ld1 rfl rfl rfl rfl rfl | exact Still.ldN rfl rfl rfl rfl | exact Still.len rfl rfl rfl rfl rfl | exact Still.skip rfl rfl rfl | exact Still.skipU rfl rfl rfl rfl | exact Still.ldRow1 rfl rfl rfl (by assumption) (by assumption) rfl rfl | exact Still.ldR rfl rfl rfl (by apply_assumption) rfl))); cases hi)) rfl rfl rfl ?_ | refine Cd.condF rfl rfl ?_ | refine Cd.skip (Cd.next ?_))
    exact Cd.ret (ret1 (A' := []) rfl (Res.tmp rfl) (fun _ h => h.split) ⟨rfl, rfl⟩)
  | true =>
    repeat' (first | refine Ops.mv rfl rfl rfl rfl ?_ | refine Ops.fa0 rfl rfl rfl rfl ?_ | refine Ops.ld1 rfl rfl rfl rfl rfl ?_ | refine Ops.bin rfl rfl rfl rfl rfl ?_ | fail)
    refine Ops.callV (fi := []) (ca := [ptr cb]) (vs := [_]) (check1_spec cb c a k _ 106 rfl) rfl (by first | exact noPd rfl | (intro v A' hR i hi; obtain ⟨A2, hR, rfl⟩ := hR; (try obtain ⟨rfl, rfl⟩ := hR); (repeat (rcases List.mem_cons.1 hi with rfl | hi; · (first | exact Still.ld1 rfl rfl rfl rfl rfl | exact Still.ldN rfl rfl rfl rfl | exact Still.len rfl rfl rfl rfl rfl | exact Still.skip rfl rfl rfl | exact Still.skipU rfl rfl rfl rfl | exact Still.ldRow1 rfl rfl rfl (by assumption) (by assumption) rfl rfl | exact Still.ldR rfl rfl rfl (by apply_assumption) rfl))); cases hi)) rfl rfl rfl rfl (fun v A' hR => ?_)
    obtain ⟨rfl, rfl⟩ := hR
    skip
    refine Ops.call (rin_spec c.job 1 8) rfl (by first | exact noPd rfl | (intro v A' hR i hi; obtain ⟨A2, hR, rfl⟩ := hR; (try obtain ⟨rfl, rfl⟩ := hR); (repeat (rcases List.mem_cons.1 hi with rfl | hi; · (first | exact Still.ld1 rfl rfl rfl rfl rfl | exact Still.ldN rfl rfl rfl rfl | exact Still.len rfl rfl rfl rfl rfl | exact Still.skip rfl rfl rfl | exact Still.skipU rfl rfl rfl rfl | exact Still.ldRow1 rfl rfl rfl (by assumption) (by assumption) rfl rfl | exact Still.ldR rfl rfl rfl (by apply_assumption) rfl))); cases hi)) rfl rfl rfl (fun v A' hR => ?_)
    obtain ⟨rfl, rfl⟩ := hR
    skip
    refine Ops.call (rgt_spec _ _ _) rfl (noPd rfl) rfl rfl rfl (fun v A' hR => ?_)
    obtain ⟨rfl, rfl⟩ := hR
    rw [show rgt (hasC (hasS c.kind) 106) (decide (c.job = 0)) (decide (1 ≤ c.job ∧ c.job ≤ 8)) = rg2 c from rfl]
    cases hr2 : rg2 c with
    | false =>
      simp only [hr1, hr2, Bool.true_and, Bool.false_and, Bool.and_false, Bool.and_true, Bool.false_eq_true, if_false, if_true]
      repeat' (first | refine Cd.seq ?_ | refine Cd.reg ?_ | refine Ops.nil ?_ | refine Ops.mv rfl rfl rfl rfl ?_ | refine Ops.asg rfl rfl rfl rfl ?_ | refine Ops.pickT rfl rfl rfl rfl rfl ?_ | refine Ops.pickF rfl rfl rfl rfl rfl ?_ | refine Ops.gSkip rfl rfl rfl ?_ | refine Ops.gSkipE rfl (by first | exact noPd rfl | (intro v A' hR i hi; obtain ⟨rfl, rfl⟩ := hR; (repeat (rcases List.mem_cons.1 hi with rfl | hi; · (first | exact Still.ld1 rfl rfl rfl rfl rfl | exact Still.ldN rfl rfl rfl rfl | exact Still.len rfl rfl rfl rfl rfl | exact Still.skip rfl rfl rfl | exact Still.skipU rfl rfl rfl rfl | exact Still.ldRow1 rfl rfl rfl (by assumption) (by assumption) rfl rfl | exact Still.ldR rfl rfl rfl (by apply_assumption) rfl))); cases hi)) rfl rfl ?_ | refine Ops.gSkipU rfl rfl rfl rfl ?_ | refine Ops.gSkipUE rfl (by first | exact noPd rfl | (intro v A' hR i hi; obtain ⟨rfl, rfl⟩ := hR; (repeat (rcases List.mem_cons.1 hi with rfl | hi; · (first | exact Still.ld1 rfl rfl rfl rfl rfl | exact Still.ldN rfl rfl rfl rfl | exact Still.len rfl rfl rfl rfl rfl | exact Still.skip rfl rfl rfl | exact Still.skipU rfl rfl rfl rfl | exact Still.ldRow1 rfl rfl rfl (by assumption) (by assumption) rfl rfl | exact Still.ldR rfl rfl rfl (by apply_assumption) rfl))); cases hi)) rfl rfl rfl ?_ | refine Cd.condF rfl rfl ?_ | refine Cd.skip (Cd.next ?_))
      exact Cd.ret (ret1 (A' := []) rfl (Res.tmp rfl) (fun _ h => h.split) ⟨rfl, rfl⟩)
    | true =>
      repeat' (first | refine Ops.mv rfl rfl rfl rfl ?_ | refine Ops.fa0 rfl rfl rfl rfl ?_ | refine Ops.ld1 rfl rfl rfl rfl rfl ?_ | refine Ops.lenStr rfl rfl rfl rfl ?_ | refine Ops.bin rfl rfl rfl rfl rfl ?_ | refine Ops.pickT rfl rfl rfl rfl rfl ?_)
      refine Ops.callV (fi := []) (ca := [ptr cb]) (vs := [_]) (check1_spec cb c a k _ 112 rfl) rfl (by first | exact noPd rfl | (intro v A' hR i hi; obtain ⟨A2, hR, rfl⟩ := hR; (try obtain ⟨rfl, rfl⟩ := hR); (repeat (rcases List.mem_cons.1 hi with rfl | hi; · (first | exact Still.ld1 rfl rfl rfl rfl rfl | exact Still.ldN rfl rfl rfl rfl | exact Still.len rfl rfl rfl rfl rfl | exact Still.skip rfl rfl rfl | exact Still.skipU rfl rfl rfl rfl | exact Still.ldRow1 rfl rfl rfl (by assumption) (by assumption) rfl rfl | exact Still.ldR rfl rfl rfl (by apply_assumption) rfl))); cases hi)) rfl rfl rfl rfl (fun v A' hR => ?_)
      obtain ⟨rfl, rfl⟩ := hR
      skip
      refine Ops.call (rin_spec (c.prog.size : Nat) 1 1024) rfl (by first | exact noPd rfl | (intro v A' hR i hi; obtain ⟨A2, hR, rfl⟩ := hR; (try obtain ⟨rfl, rfl⟩ := hR); (repeat (rcases List.mem_cons.1 hi with rfl | hi; · (first | exact Still.ld1 rfl rfl rfl rfl rfl | exact Still.ldN rfl rfl rfl rfl | exact Still.len rfl rfl rfl rfl rfl | exact Still.skip rfl rfl rfl | exact Still.skipU rfl rfl rfl rfl | exact Still.ldRow1 rfl rfl rfl (by assumption) (by assumption) rfl rfl | exact Still.ldR rfl rfl rfl (by apply_assumption) rfl))); cases hi)) rfl rfl rfl (fun v A' hR => ?_)
      obtain ⟨rfl, rfl⟩ := hR
      skip
      refine Ops.call (rgt_spec _ _ _) rfl (noPd rfl) rfl rfl rfl (fun v A' hR => ?_)
      obtain ⟨rfl, rfl⟩ := hR
      rw [show rgt (hasC (hasS c.kind) 112) (decide (c.prog = ⟨#[]⟩)) (decide ((1 : Int) ≤ (c.prog.size : Nat) ∧ ((c.prog.size : Nat) : Int) ≤ 1024)) = rg3 c from rfl]
      cases hr3 : rg3 c with
      | false =>
        simp only [hr1, hr2, hr3, Bool.true_and, Bool.false_and, Bool.and_false, Bool.and_true, Bool.false_eq_true, if_false, if_true]
        repeat' (first | refine Cd.seq ?_ | refine Cd.reg ?_ | refine Ops.nil ?_ | refine Ops.mv rfl rfl rfl rfl ?_ | refine Ops.asg rfl rfl rfl rfl ?_ | refine Ops.pickT rfl rfl rfl rfl rfl ?_ | refine Ops.pickF rfl rfl rfl rfl rfl ?_ | refine Ops.gSkip rfl rfl rfl ?_ | refine Ops.gSkipE rfl (by first | exact noPd rfl | (intro v A' hR i hi; obtain ⟨rfl, rfl⟩ := hR; (repeat (rcases List.mem_cons.1 hi with rfl | hi; · (first | exact Still.ld1 rfl rfl rfl rfl rfl | exact Still.ldN rfl rfl rfl rfl | exact Still.len rfl rfl rfl rfl rfl | exact Still.skip rfl rfl rfl | exact Still.skipU rfl rfl rfl rfl | exact Still.ldRow1 rfl rfl rfl (by assumption) (by assumption) rfl rfl | exact Still.ldR rfl rfl rfl (by apply_assumption) rfl))); cases hi)) rfl rfl ?_ | refine Ops.gSkipU rfl rfl rfl rfl ?_ | refine Ops.gSkipUE rfl (by first | exact noPd rfl | (intro v A' hR i hi; obtain ⟨rfl, rfl⟩ := hR; (repeat (rcases List.mem_cons.1 hi with rfl | hi; · (first | exact Still.ld1 rfl rfl rfl rfl rfl | exact Still.ldN rfl rfl rfl rfl | exact Still.len rfl rfl rfl rfl rfl | exact Still.skip rfl rfl rfl | exact Still.skipU rfl rfl rfl rfl | exact Still.ldRow1 rfl rfl rfl (by assumption) (by assumption) rfl rfl | exact Still.ldR rfl rfl rfl (by apply_assumption) rfl))); cases hi)) rfl rfl rfl ?_ | refine Cd.condF rfl rfl ?_ | refine Cd.skip (Cd.next ?_))
        exact Cd.ret (ret1 (A' := []) rfl (Res.tmp rfl) (fun _ h => h.split) ⟨rfl, rfl⟩)
      | true =>
        repeat' (first | refine Ops.mv rfl rfl rfl rfl ?_ | refine Ops.fa0 rfl rfl rfl rfl ?_ | refine Ops.ld1 rfl rfl rfl rfl rfl ?_ | refine Ops.bin rfl rfl rfl rfl rfl ?_ | refine Ops.pickT rfl rfl rfl rfl rfl ?_)
        refine Ops.callV (fi := []) (ca := [ptr cb]) (vs := [_]) (check1_spec cb c a k _ 98 rfl) rfl (by first | exact noPd rfl | (intro v A' hR i hi; obtain ⟨A2, hR, rfl⟩ := hR; (try obtain ⟨rfl, rfl⟩ := hR); (repeat (rcases List.mem_cons.1 hi with rfl | hi; · (first | exact Still.ld1 rfl rfl rfl rfl rfl | exact Still.ldN rfl rfl rfl rfl | exact Still.len rfl rfl rfl rfl rfl | exact Still.skip rfl rfl rfl | exact Still.skipU rfl rfl rfl rfl | exact Still.ldRow1 rfl rfl rfl (by assumption) (by assumption) rfl rfl | exact Still.ldR rfl rfl rfl (by apply_assumption) rfl))); cases hi)) rfl rfl rfl rfl (fun v A' hR => ?_)
        obtain ⟨rfl, rfl⟩ := hR
        skip
        refine Ops.call (rin_spec c.badge 1 1099511627776) rfl (by first | exact noPd rfl | (intro v A' hR i hi; obtain ⟨A2, hR, rfl⟩ := hR; (try obtain ⟨rfl, rfl⟩ := hR); (repeat (rcases List.mem_cons.1 hi with rfl | hi; · (first | exact Still.ld1 rfl rfl rfl rfl rfl | exact Still.ldN rfl rfl rfl rfl | exact Still.len rfl rfl rfl rfl rfl | exact Still.skip rfl rfl rfl | exact Still.skipU rfl rfl rfl rfl | exact Still.ldRow1 rfl rfl rfl (by assumption) (by assumption) rfl rfl | exact Still.ldR rfl rfl rfl (by apply_assumption) rfl))); cases hi)) rfl rfl rfl (fun v A' hR => ?_)
        obtain ⟨rfl, rfl⟩ := hR
        skip
        refine Ops.call (rgt_spec _ _ _) rfl (noPd rfl) rfl rfl rfl (fun v A' hR => ?_)
        obtain ⟨rfl, rfl⟩ := hR
        rw [show rgt (hasC (hasS c.kind) 98) (decide (c.badge = 0)) (decide (1 ≤ c.badge ∧ c.badge ≤ 1099511627776)) = rg4 c from rfl]
        cases hr4 : rg4 c with
        | false =>
          simp only [hr1, hr2, hr3, hr4, Bool.true_and, Bool.false_and, Bool.and_false, Bool.and_true, Bool.false_eq_true, if_false, if_true]
          repeat' (first | refine Cd.seq ?_ | refine Cd.reg ?_ | refine Ops.nil ?_ | refine Ops.mv rfl rfl rfl rfl ?_ | refine Ops.asg rfl rfl rfl rfl ?_ | refine Ops.pickT rfl rfl rfl rfl rfl ?_ | refine Ops.pickF rfl rfl rfl rfl rfl ?_ | refine Ops.gSkip rfl rfl rfl ?_ | refine Ops.gSkipE rfl (by first | exact noPd rfl | (intro v A' hR i hi; obtain ⟨rfl, rfl⟩ := hR; (repeat (rcases List.mem_cons.1 hi with rfl | hi; · (first | exact Still.ld1 rfl rfl rfl rfl rfl | exact Still.ldN rfl rfl rfl rfl | exact Still.len rfl rfl rfl rfl rfl | exact Still.skip rfl rfl rfl | exact Still.skipU rfl rfl rfl rfl | exact Still.ldRow1 rfl rfl rfl (by assumption) (by assumption) rfl rfl | exact Still.ldR rfl rfl rfl (by apply_assumption) rfl))); cases hi)) rfl rfl ?_ | refine Ops.gSkipU rfl rfl rfl rfl ?_ | refine Ops.gSkipUE rfl (by first | exact noPd rfl | (intro v A' hR i hi; obtain ⟨rfl, rfl⟩ := hR; (repeat (rcases List.mem_cons.1 hi with rfl | hi; · (first | exact Still.ld1 rfl rfl rfl rfl rfl | exact Still.ldN rfl rfl rfl rfl | exact Still.len rfl rfl rfl rfl rfl | exact Still.skip rfl rfl rfl | exact Still.skipU rfl rfl rfl rfl | exact Still.ldRow1 rfl rfl rfl (by assumption) (by assumption) rfl rfl | exact Still.ldR rfl rfl rfl (by apply_assumption) rfl))); cases hi)) rfl rfl rfl ?_ | refine Cd.condF rfl rfl ?_ | refine Cd.skip (Cd.next ?_))
          exact Cd.ret (ret1 (A' := []) rfl (Res.tmp rfl) (fun _ h => h.split) ⟨rfl, rfl⟩)
        | true =>
          repeat' (first | refine Ops.mv rfl rfl rfl rfl ?_ | refine Ops.fa0 rfl rfl rfl rfl ?_ | refine Ops.ld1 rfl rfl rfl rfl rfl ?_ | refine Ops.bin rfl rfl rfl rfl rfl ?_ | refine Ops.pickT rfl rfl rfl rfl rfl ?_)
          refine Ops.callV (fi := []) (ca := [ptr cb]) (vs := [_]) (check1_spec cb c a k _ 115 rfl) rfl (by first | exact noPd rfl | (intro v A' hR i hi; obtain ⟨A2, hR, rfl⟩ := hR; (try obtain ⟨rfl, rfl⟩ := hR); (repeat (rcases List.mem_cons.1 hi with rfl | hi; · (first | exact Still.ld1 rfl rfl rfl rfl rfl | exact Still.ldN rfl rfl rfl rfl | exact Still.len rfl rfl rfl rfl rfl | exact Still.skip rfl rfl rfl | exact Still.skipU rfl rfl rfl rfl | exact Still.ldRow1 rfl rfl rfl (by assumption) (by assumption) rfl rfl | exact Still.ldR rfl rfl rfl (by apply_assumption) rfl))); cases hi)) rfl rfl rfl rfl (fun v A' hR => ?_)
          obtain ⟨rfl, rfl⟩ := hR
          by_cases hs0 : c.slot = 0
          · skip
            repeat' (first | refine Ops.mv rfl rfl rfl rfl ?_ | refine Ops.fa0 rfl rfl rfl rfl ?_ | refine Ops.ld1 rfl rfl rfl rfl rfl ?_ | refine Ops.bin rfl rfl rfl rfl rfl ?_ | refine Ops.pickT rfl rfl rfl rfl rfl ?_ | ((fail_if_success refine Ops.probe rfl ?_); refine Ops.gT rfl rfl (by first | rfl | assumption | (simp only [decide_eq_true_eq, decide_eq_false_iff_not, Bool.not_eq_true', Bool.not_eq_false', Bool.not_eq_eq_eq_not, Bool.not_true, Bool.not_false, beq_iff_eq, beq_eq_false_iff_ne, ne_eq, decide_eq_decide, eq_self, true_iff, iff_true, not_true_eq_false, not_false_eq_true]; first | done | omega)) ?_))
            refine Ops.call (rin_spec c.slot 0 7) rfl (by first | exact noPd rfl | (intro v A' hR i hi; obtain ⟨A2, hR, rfl⟩ := hR; (try obtain ⟨rfl, rfl⟩ := hR); (repeat (rcases List.mem_cons.1 hi with rfl | hi; · (first | exact Still.ld1 rfl rfl rfl rfl rfl | exact Still.ldN rfl rfl rfl rfl | exact Still.len rfl rfl rfl rfl rfl | exact Still.skip rfl rfl rfl | exact Still.skipU rfl rfl rfl rfl | exact Still.ldRow1 rfl rfl rfl (by assumption) (by assumption) rfl rfl | exact Still.ldR rfl rfl rfl (by apply_assumption) rfl))); cases hi)) rfl rfl rfl (fun v A' hR => ?_)
            obtain ⟨rfl, rfl⟩ := hR
            by_cases hs7 : 0 ≤ c.slot ∧ c.slot ≤ 7
            · skip
              rw [decide_eq_true hs7]
              repeat' (first | refine Ops.mv rfl rfl rfl rfl ?_ | refine Ops.fa0 rfl rfl rfl rfl ?_ | refine Ops.ld1 rfl rfl rfl rfl rfl ?_)
              refine Ops.call (rin_spec c.life 1 1099511627776) rfl (by first | exact noPd rfl | (intro v A' hR i hi; obtain ⟨A2, hR, rfl⟩ := hR; (try obtain ⟨rfl, rfl⟩ := hR); (repeat (rcases List.mem_cons.1 hi with rfl | hi; · (first | exact Still.ld1 rfl rfl rfl rfl rfl | exact Still.ldN rfl rfl rfl rfl | exact Still.len rfl rfl rfl rfl rfl | exact Still.skip rfl rfl rfl | exact Still.skipU rfl rfl rfl rfl | exact Still.ldRow1 rfl rfl rfl (by assumption) (by assumption) rfl rfl | exact Still.ldR rfl rfl rfl (by apply_assumption) rfl))); cases hi)) rfl rfl rfl (fun v A' hR => ?_)
              obtain ⟨rfl, rfl⟩ := hR
              repeat' (first | refine Ops.pickT rfl rfl rfl rfl rfl ?_)
              refine Ops.call (rgt_spec _ _ _) rfl (noPd rfl) rfl rfl rfl (fun v A' hR => ?_)
              obtain ⟨rfl, rfl⟩ := hR
              rw [show rgt (hasC (hasS c.kind) 115) (decide (c.life = 0)) (decide (1 ≤ c.life ∧ c.life ≤ 1099511627776)) = rg5 c from by simp [rg5, hs0, hs7]]
              cases hr5 : rg5 c with
              | false =>
                simp only [hr1, hr2, hr3, hr4, hr5, Bool.true_and, Bool.false_and, Bool.and_false, Bool.and_true, Bool.false_eq_true, if_false, if_true]
                repeat' (first | refine Cd.seq ?_ | refine Cd.reg ?_ | refine Ops.nil ?_ | refine Ops.mv rfl rfl rfl rfl ?_ | refine Ops.asg rfl rfl rfl rfl ?_ | refine Ops.pickT rfl rfl rfl rfl rfl ?_ | refine Ops.pickF rfl rfl rfl rfl rfl ?_ | refine Ops.gSkip rfl rfl rfl ?_ | refine Ops.gSkipE rfl (by first | exact noPd rfl | (intro v A' hR i hi; obtain ⟨rfl, rfl⟩ := hR; (repeat (rcases List.mem_cons.1 hi with rfl | hi; · (first | exact Still.ld1 rfl rfl rfl rfl rfl | exact Still.ldN rfl rfl rfl rfl | exact Still.len rfl rfl rfl rfl rfl | exact Still.skip rfl rfl rfl | exact Still.skipU rfl rfl rfl rfl | exact Still.ldRow1 rfl rfl rfl (by assumption) (by assumption) rfl rfl | exact Still.ldR rfl rfl rfl (by apply_assumption) rfl))); cases hi)) rfl rfl ?_ | refine Ops.gSkipU rfl rfl rfl rfl ?_ | refine Cd.condF rfl rfl ?_ | refine Cd.skip (Cd.next ?_))
                exact Cd.ret (ret1 (A' := []) rfl (Res.tmp rfl) (fun _ h => h.split) ⟨rfl, rfl⟩)
              | true =>
                repeat' (first | refine Ops.mv rfl rfl rfl rfl ?_ | refine Ops.fa0 rfl rfl rfl rfl ?_ | refine Ops.ld1 rfl rfl rfl rfl rfl ?_ | refine Ops.lenS rfl rfl rfl rfl ?_ | refine Ops.bin rfl rfl rfl rfl rfl ?_ | refine Ops.pickT rfl rfl rfl rfl rfl ?_)
                refine Ops.callV (fi := []) (ca := [ptr cb]) (vs := [_]) (check1_spec cb c a k _ 116 rfl) rfl (by first | exact noPd rfl | (intro v A' hR i hi; obtain ⟨A2, hR, rfl⟩ := hR; (try obtain ⟨rfl, rfl⟩ := hR); (repeat (rcases List.mem_cons.1 hi with rfl | hi; · (first | exact Still.ld1 rfl rfl rfl rfl rfl | exact Still.ldN rfl rfl rfl rfl | exact Still.len rfl rfl rfl rfl rfl | exact Still.skip rfl rfl rfl | exact Still.skipU rfl rfl rfl rfl | exact Still.ldRow1 rfl rfl rfl (by assumption) (by assumption) rfl rfl | exact Still.ldR rfl rfl rfl (by apply_assumption) rfl))); cases hi)) rfl rfl rfl rfl (fun v A' hR => ?_)
                obtain ⟨rfl, rfl⟩ := hR
                skip
                refine Ops.callB (texts_spec B0 a k c.txs hS hl) hx rfl (by first | exact noPd rfl | (intro v A' hR i hi; obtain ⟨A2, hR, rfl⟩ := hR; (try obtain ⟨rfl, rfl⟩ := hR); (repeat (rcases List.mem_cons.1 hi with rfl | hi; · (first | exact Still.ld1 rfl rfl rfl rfl rfl | exact Still.ldN rfl rfl rfl rfl | exact Still.len rfl rfl rfl rfl rfl | exact Still.skip rfl rfl rfl | exact Still.skipU rfl rfl rfl rfl | exact Still.ldRow1 rfl rfl rfl (by assumption) (by assumption) rfl rfl | exact Still.ldR rfl rfl rfl (by apply_assumption) rfl))); cases hi)) rfl rfl rfl (fun v A' hR => ?_)
                obtain ⟨rfl, rfl⟩ := hR
                skip
                refine Ops.call (rgt_spec _ _ _) rfl (noPd rfl) rfl rfl rfl (fun v A' hR => ?_)
                obtain ⟨rfl, rfl⟩ := hR
                rw [show rgt (hasC (hasS c.kind) 116) (decide (((c.txs.length : Nat) : Int) = 0)) (textsF c.txs) = rg6 c from rfl]
                cases hr6 : rg6 c with
                | false =>
                  simp only [hr1, hr2, hr3, hr4, hr5, hr6, Bool.true_and, Bool.false_and, Bool.and_false, Bool.and_true, Bool.false_eq_true, if_false, if_true]
                  repeat' (first | refine Cd.seq ?_ | refine Cd.reg ?_ | refine Ops.nil ?_ | refine Ops.mv rfl rfl rfl rfl ?_ | refine Ops.asg rfl rfl rfl rfl ?_ | refine Ops.pickT rfl rfl rfl rfl rfl ?_ | refine Ops.pickF rfl rfl rfl rfl rfl ?_ | refine Ops.gSkip rfl rfl rfl ?_ | refine Ops.gSkipE rfl (by first | exact noPd rfl | (intro v A' hR i hi; obtain ⟨rfl, rfl⟩ := hR; (repeat (rcases List.mem_cons.1 hi with rfl | hi; · (first | exact Still.ld1 rfl rfl rfl rfl rfl | exact Still.ldN rfl rfl rfl rfl | exact Still.len rfl rfl rfl rfl rfl | exact Still.skip rfl rfl rfl | exact Still.skipU rfl rfl rfl rfl | exact Still.ldRow1 rfl rfl rfl (by assumption) (by assumption) rfl rfl | exact Still.ldR rfl rfl rfl (by apply_assumption) rfl))); cases hi)) rfl rfl ?_ | refine Ops.gSkipU rfl rfl rfl rfl ?_ | refine Cd.condF rfl rfl ?_ | refine Cd.skip (Cd.next ?_))
                  exact Cd.ret (ret1 (A' := []) rfl (Res.tmp rfl) (fun _ h => h.split) ⟨rfl, rfl⟩)
                | true =>
                  repeat' (first | refine Ops.mv rfl rfl rfl rfl ?_ | refine Ops.fa0 rfl rfl rfl rfl ?_ | refine Ops.ld1 rfl rfl rfl rfl rfl ?_ | refine Ops.ldN rfl rfl rfl rfl ?_ | refine Ops.bin rfl rfl rfl rfl rfl ?_ | refine Ops.pickT rfl rfl rfl rfl rfl ?_ | refine Ops.bld rfl rfl rfl rfl ?_ | fail)
                  refine Ops.callV (fi := []) (ca := [ptr cb]) (vs := [_]) (check1_spec cb c a k _ 114 rfl) rfl (by first | exact noPd rfl | (intro v A' hR i hi; obtain ⟨A2, hR, rfl⟩ := hR; (try obtain ⟨rfl, rfl⟩ := hR); (repeat (rcases List.mem_cons.1 hi with rfl | hi; · (first | exact Still.ld1 rfl rfl rfl rfl rfl | exact Still.ldN rfl rfl rfl rfl | exact Still.len rfl rfl rfl rfl rfl | exact Still.skip rfl rfl rfl | exact Still.skipU rfl rfl rfl rfl | exact Still.ldRow1 rfl rfl rfl (by assumption) (by assumption) rfl rfl | exact Still.ldR rfl rfl rfl (by apply_assumption) rfl))); cases hi)) rfl rfl rfl rfl (fun v A' hR => ?_)
                  obtain ⟨rfl, rfl⟩ := hR
                  skip
                  refine Ops.call (rin_spec c.rcode 0 7) rfl (by first | exact noPd rfl | (intro v A' hR i hi; obtain ⟨A2, hR, rfl⟩ := hR; (try obtain ⟨rfl, rfl⟩ := hR); (repeat (rcases List.mem_cons.1 hi with rfl | hi; · (first | exact Still.ld1 rfl rfl rfl rfl rfl | exact Still.ldN rfl rfl rfl rfl | exact Still.len rfl rfl rfl rfl rfl | exact Still.skip rfl rfl rfl | exact Still.skipU rfl rfl rfl rfl | exact Still.ldRow1 rfl rfl rfl (by assumption) (by assumption) rfl rfl | exact Still.ldR rfl rfl rfl (by apply_assumption) rfl))); cases hi)) rfl rfl rfl (fun v A' hR => ?_)
                  obtain ⟨rfl, rfl⟩ := hR
                  by_cases h7 : 0 ≤ c.rcode ∧ c.rcode ≤ 7
                  · rw [decide_eq_true h7]
                    by_cases h0 : c.rcode = 0
                    · skip
                      repeat' (first | refine Ops.mv rfl rfl rfl rfl ?_ | refine Ops.fa0 rfl rfl rfl rfl ?_ | refine Ops.ld1 rfl rfl rfl rfl rfl ?_ | refine Ops.bin rfl rfl rfl rfl rfl ?_ | refine Ops.pickT rfl rfl rfl rfl rfl ?_ | refine Ops.gSkip rfl rfl rfl ?_ | ((fail_if_success refine Ops.probe rfl ?_); refine Ops.gT rfl rfl (by first | rfl | assumption | (simp only [decide_eq_true_eq, decide_eq_false_iff_not, Bool.not_eq_true', Bool.not_eq_false', Bool.not_eq_eq_eq_not, Bool.not_true, Bool.not_false, beq_iff_eq, beq_eq_false_iff_ne, ne_eq, decide_eq_decide, eq_self, true_iff, iff_true, not_true_eq_false, not_false_eq_true]; first | done | omega)) ?_))
                      refine Ops.call (rgt_spec _ _ _) rfl (noPd rfl) rfl rfl rfl (fun v A' hR => ?_)
                      obtain ⟨rfl, rfl⟩ := hR
                      rw [show rgt (hasC (hasS c.kind) 114) (decide (c.rcode = 0) && (decide (c.rbits = 0) && true)) (true) = rg7 c from by simp [rg7, h7, h0]]
                      cases hr7 : rg7 c with
                      | false =>
                        simp only [hr1, hr2, hr3, hr4, hr5, hr6, hr7, Bool.true_and, Bool.false_and, Bool.and_false, Bool.and_true, Bool.false_eq_true, if_false, if_true]
                        repeat' (first | refine Cd.seq ?_ | refine Cd.reg ?_ | refine Ops.nil ?_ | refine Ops.asg rfl rfl rfl rfl ?_ | refine Ops.pickT rfl rfl rfl rfl rfl ?_ | refine Cd.condF rfl rfl ?_ | refine Cd.skip (Cd.next ?_))
                        exact Cd.ret (ret1 (A' := []) rfl (Res.tmp rfl) (fun _ h => h.split) ⟨rfl, rfl⟩)
                      | true =>
                        simp only [hr1, hr2, hr3, hr4, hr5, hr6, hr7, Bool.true_and, Bool.false_and, Bool.and_false, Bool.and_true, Bool.false_eq_true, if_false, if_true]
                        repeat' (first | refine Cd.seq ?_ | refine Cd.reg ?_ | refine Ops.nil ?_ | refine Ops.asg rfl rfl rfl rfl ?_ | refine Ops.pickT rfl rfl rfl rfl rfl ?_ | refine Cd.condT rfl rfl ?_)
                        exact Cd.ret (ret1 (A' := []) rfl (Res.tmp rfl) (fun _ h => h.split) ⟨rfl, rfl⟩)
                    · skip
                      repeat' (first | refine Ops.mv rfl rfl rfl rfl ?_ | refine Ops.fa0 rfl rfl rfl rfl ?_ | refine Ops.ld1 rfl rfl rfl rfl rfl ?_ | refine Ops.bin rfl rfl rfl rfl rfl ?_ | refine Ops.pickT rfl rfl rfl rfl rfl ?_ | refine Ops.pickF rfl rfl rfl rfl rfl ?_ | ((fail_if_success refine Ops.probe rfl ?_); refine Ops.gF rfl rfl (by first | rfl | assumption | (simp only [decide_eq_true_eq, decide_eq_false_iff_not, Bool.not_eq_true', Bool.not_eq_false', Bool.not_eq_eq_eq_not, Bool.not_true, Bool.not_false, beq_iff_eq, beq_eq_false_iff_ne, ne_eq, decide_eq_decide, eq_self, true_iff, iff_true, not_true_eq_false, not_false_eq_true]; first | done | omega)) ?_))
                      refine Ops.call (rgt_spec _ _ _) rfl (noPd rfl) rfl rfl rfl (fun v A' hR => ?_)
                      obtain ⟨rfl, rfl⟩ := hR
                      rw [show rgt (hasC (hasS c.kind) 114) (decide (c.rcode = 0) && (decide (c.rbits = 0) && true)) (decide (c.rbits = 0)) = rg7 c from by simp [rg7, h7, h0]]
                      cases hr7 : rg7 c with
                      | false =>
                        simp only [hr1, hr2, hr3, hr4, hr5, hr6, hr7, Bool.true_and, Bool.false_and, Bool.and_false, Bool.and_true, Bool.false_eq_true, if_false, if_true]
                        repeat' (first | refine Cd.seq ?_ | refine Cd.reg ?_ | refine Ops.nil ?_ | refine Ops.asg rfl rfl rfl rfl ?_ | refine Ops.pickT rfl rfl rfl rfl rfl ?_ | refine Cd.condF rfl rfl ?_ | refine Cd.skip (Cd.next ?_))
                        exact Cd.ret (ret1 (A' := []) rfl (Res.tmp rfl) (fun _ h => h.split) ⟨rfl, rfl⟩)
                      | true =>
                        simp only [hr1, hr2, hr3, hr4, hr5, hr6, hr7, Bool.true_and, Bool.false_and, Bool.and_false, Bool.and_true, Bool.false_eq_true, if_false, if_true]
                        repeat' (first | refine Cd.seq ?_ | refine Cd.reg ?_ | refine Ops.nil ?_ | refine Ops.asg rfl rfl rfl rfl ?_ | refine Ops.pickT rfl rfl rfl rfl rfl ?_ | refine Cd.condT rfl rfl ?_)
                        exact Cd.ret (ret1 (A' := []) rfl (Res.tmp rfl) (fun _ h => h.split) ⟨rfl, rfl⟩)
                  · rw [decide_eq_false h7]
                    repeat' (first | refine Ops.mv rfl rfl rfl rfl ?_ | refine Ops.pickF rfl rfl rfl rfl rfl ?_ | refine Ops.gSkip rfl rfl rfl ?_ | refine Ops.gSkipU rfl rfl rfl rfl ?_)
                    refine Ops.call (rgt_spec _ _ _) rfl (noPd rfl) rfl rfl rfl (fun v A' hR => ?_)
                    obtain ⟨rfl, rfl⟩ := hR
                    rw [show rgt (hasC (hasS c.kind) 114) (decide (c.rcode = 0) && (decide (c.rbits = 0) && true)) (false) = rg7 c from by simp [rg7, h7]]
                    cases hr7 : rg7 c with
                    | false =>
                      simp only [hr1, hr2, hr3, hr4, hr5, hr6, hr7, Bool.true_and, Bool.false_and, Bool.and_false, Bool.and_true, Bool.false_eq_true, if_false, if_true]
                      repeat' (first | refine Cd.seq ?_ | refine Cd.reg ?_ | refine Ops.nil ?_ | refine Ops.asg rfl rfl rfl rfl ?_ | refine Ops.pickT rfl rfl rfl rfl rfl ?_ | refine Cd.condF rfl rfl ?_ | refine Cd.skip (Cd.next ?_))
                      exact Cd.ret (ret1 (A' := []) rfl (Res.tmp rfl) (fun _ h => h.split) ⟨rfl, rfl⟩)
                    | true =>
                      simp only [hr1, hr2, hr3, hr4, hr5, hr6, hr7, Bool.true_and, Bool.false_and, Bool.and_false, Bool.and_true, Bool.false_eq_true, if_false, if_true]
                      repeat' (first | refine Cd.seq ?_ | refine Cd.reg ?_ | refine Ops.nil ?_ | refine Ops.asg rfl rfl rfl rfl ?_ | refine Ops.pickT rfl rfl rfl rfl rfl ?_ | refine Cd.condT rfl rfl ?_)
                      exact Cd.ret (ret1 (A' := []) rfl (Res.tmp rfl) (fun _ h => h.split) ⟨rfl, rfl⟩)
            · exact absurd hs0 (by omega)
          · skip
            repeat' (first | refine Ops.mv rfl rfl rfl rfl ?_ | refine Ops.pickF rfl rfl rfl rfl rfl ?_ | refine Ops.gSkip rfl rfl rfl ?_ | ((fail_if_success refine Ops.probe rfl ?_); refine Ops.gF rfl rfl (by first | rfl | assumption | (simp only [decide_eq_true_eq, decide_eq_false_iff_not, Bool.not_eq_true', Bool.not_eq_false', Bool.not_eq_eq_eq_not, Bool.not_true, Bool.not_false, beq_iff_eq, beq_eq_false_iff_ne, ne_eq, decide_eq_decide, eq_self, true_iff, iff_true, not_true_eq_false, not_false_eq_true]; first | done | omega)) ?_))
            refine Ops.call (rin_spec c.slot 0 7) rfl (by first | exact noPd rfl | (intro v A' hR i hi; obtain ⟨A2, hR, rfl⟩ := hR; (try obtain ⟨rfl, rfl⟩ := hR); (repeat (rcases List.mem_cons.1 hi with rfl | hi; · (first | exact Still.ld1 rfl rfl rfl rfl rfl | exact Still.ldN rfl rfl rfl rfl | exact Still.len rfl rfl rfl rfl rfl | exact Still.skip rfl rfl rfl | exact Still.skipU rfl rfl rfl rfl | exact Still.ldRow1 rfl rfl rfl (by assumption) (by assumption) rfl rfl | exact Still.ldR rfl rfl rfl (by apply_assumption) rfl))); cases hi)) rfl rfl rfl (fun v A' hR => ?_)
            obtain ⟨rfl, rfl⟩ := hR
            by_cases hs7 : 0 ≤ c.slot ∧ c.slot ≤ 7
            · skip
              rw [decide_eq_true hs7]
              repeat' (first | refine Ops.mv rfl rfl rfl rfl ?_ | refine Ops.fa0 rfl rfl rfl rfl ?_ | refine Ops.ld1 rfl rfl rfl rfl rfl ?_)
              refine Ops.call (rin_spec c.life 1 1099511627776) rfl (by first | exact noPd rfl | (intro v A' hR i hi; obtain ⟨A2, hR, rfl⟩ := hR; (try obtain ⟨rfl, rfl⟩ := hR); (repeat (rcases List.mem_cons.1 hi with rfl | hi; · (first | exact Still.ld1 rfl rfl rfl rfl rfl | exact Still.ldN rfl rfl rfl rfl | exact Still.len rfl rfl rfl rfl rfl | exact Still.skip rfl rfl rfl | exact Still.skipU rfl rfl rfl rfl | exact Still.ldRow1 rfl rfl rfl (by assumption) (by assumption) rfl rfl | exact Still.ldR rfl rfl rfl (by apply_assumption) rfl))); cases hi)) rfl rfl rfl (fun v A' hR => ?_)
              obtain ⟨rfl, rfl⟩ := hR
              repeat' (first | refine Ops.pickT rfl rfl rfl rfl rfl ?_)
              refine Ops.call (rgt_spec _ _ _) rfl (noPd rfl) rfl rfl rfl (fun v A' hR => ?_)
              obtain ⟨rfl, rfl⟩ := hR
              rw [show rgt (hasC (hasS c.kind) 115) (false) (decide (1 ≤ c.life ∧ c.life ≤ 1099511627776)) = rg5 c from by simp [rg5, hs0, hs7]]
              cases hr5 : rg5 c with
              | false =>
                simp only [hr1, hr2, hr3, hr4, hr5, Bool.true_and, Bool.false_and, Bool.and_false, Bool.and_true, Bool.false_eq_true, if_false, if_true]
                repeat' (first | refine Cd.seq ?_ | refine Cd.reg ?_ | refine Ops.nil ?_ | refine Ops.mv rfl rfl rfl rfl ?_ | refine Ops.asg rfl rfl rfl rfl ?_ | refine Ops.pickT rfl rfl rfl rfl rfl ?_ | refine Ops.pickF rfl rfl rfl rfl rfl ?_ | refine Ops.gSkip rfl rfl rfl ?_ | refine Ops.gSkipE rfl (by first | exact noPd rfl | (intro v A' hR i hi; obtain ⟨rfl, rfl⟩ := hR; (repeat (rcases List.mem_cons.1 hi with rfl | hi; · (first | exact Still.ld1 rfl rfl rfl rfl rfl | exact Still.ldN rfl rfl rfl rfl | exact Still.len rfl rfl rfl rfl rfl | exact Still.skip rfl rfl rfl | exact Still.skipU rfl rfl rfl rfl | exact Still.ldRow1 rfl rfl rfl (by assumption) (by assumption) rfl rfl | exact Still.ldR rfl rfl rfl (by apply_assumption) rfl))); cases hi)) rfl rfl ?_ | refine Ops.gSkipU rfl rfl rfl rfl ?_ | refine Cd.condF rfl rfl ?_ | refine Cd.skip (Cd.next ?_))
                exact Cd.ret (ret1 (A' := []) rfl (Res.tmp rfl) (fun _ h => h.split) ⟨rfl, rfl⟩)
              | true =>
                repeat' (first | refine Ops.mv rfl rfl rfl rfl ?_ | refine Ops.fa0 rfl rfl rfl rfl ?_ | refine Ops.ld1 rfl rfl rfl rfl rfl ?_ | refine Ops.lenS rfl rfl rfl rfl ?_ | refine Ops.bin rfl rfl rfl rfl rfl ?_ | refine Ops.pickT rfl rfl rfl rfl rfl ?_)
                refine Ops.callV (fi := []) (ca := [ptr cb]) (vs := [_]) (check1_spec cb c a k _ 116 rfl) rfl (by first | exact noPd rfl | (intro v A' hR i hi; obtain ⟨A2, hR, rfl⟩ := hR; (try obtain ⟨rfl, rfl⟩ := hR); (repeat (rcases List.mem_cons.1 hi with rfl | hi; · (first | exact Still.ld1 rfl rfl rfl rfl rfl | exact Still.ldN rfl rfl rfl rfl | exact Still.len rfl rfl rfl rfl rfl | exact Still.skip rfl rfl rfl | exact Still.skipU rfl rfl rfl rfl | exact Still.ldRow1 rfl rfl rfl (by assumption) (by assumption) rfl rfl | exact Still.ldR rfl rfl rfl (by apply_assumption) rfl))); cases hi)) rfl rfl rfl rfl (fun v A' hR => ?_)
                obtain ⟨rfl, rfl⟩ := hR
                skip
                refine Ops.callB (texts_spec B0 a k c.txs hS hl) hx rfl (by first | exact noPd rfl | (intro v A' hR i hi; obtain ⟨A2, hR, rfl⟩ := hR; (try obtain ⟨rfl, rfl⟩ := hR); (repeat (rcases List.mem_cons.1 hi with rfl | hi; · (first | exact Still.ld1 rfl rfl rfl rfl rfl | exact Still.ldN rfl rfl rfl rfl | exact Still.len rfl rfl rfl rfl rfl | exact Still.skip rfl rfl rfl | exact Still.skipU rfl rfl rfl rfl | exact Still.ldRow1 rfl rfl rfl (by assumption) (by assumption) rfl rfl | exact Still.ldR rfl rfl rfl (by apply_assumption) rfl))); cases hi)) rfl rfl rfl (fun v A' hR => ?_)
                obtain ⟨rfl, rfl⟩ := hR
                skip
                refine Ops.call (rgt_spec _ _ _) rfl (noPd rfl) rfl rfl rfl (fun v A' hR => ?_)
                obtain ⟨rfl, rfl⟩ := hR
                rw [show rgt (hasC (hasS c.kind) 116) (decide (((c.txs.length : Nat) : Int) = 0)) (textsF c.txs) = rg6 c from rfl]
                cases hr6 : rg6 c with
                | false =>
                  simp only [hr1, hr2, hr3, hr4, hr5, hr6, Bool.true_and, Bool.false_and, Bool.and_false, Bool.and_true, Bool.false_eq_true, if_false, if_true]
                  repeat' (first | refine Cd.seq ?_ | refine Cd.reg ?_ | refine Ops.nil ?_ | refine Ops.mv rfl rfl rfl rfl ?_ | refine Ops.asg rfl rfl rfl rfl ?_ | refine Ops.pickT rfl rfl rfl rfl rfl ?_ | refine Ops.pickF rfl rfl rfl rfl rfl ?_ | refine Ops.gSkip rfl rfl rfl ?_ | refine Ops.gSkipE rfl (by first | exact noPd rfl | (intro v A' hR i hi; obtain ⟨rfl, rfl⟩ := hR; (repeat (rcases List.mem_cons.1 hi with rfl | hi; · (first | exact Still.ld1 rfl rfl rfl rfl rfl | exact Still.ldN rfl rfl rfl rfl | exact Still.len rfl rfl rfl rfl rfl | exact Still.skip rfl rfl rfl | exact Still.skipU rfl rfl rfl rfl | exact Still.ldRow1 rfl rfl rfl (by assumption) (by assumption) rfl rfl | exact Still.ldR rfl rfl rfl (by apply_assumption) rfl))); cases hi)) rfl rfl ?_ | refine Ops.gSkipU rfl rfl rfl rfl ?_ | refine Cd.condF rfl rfl ?_ | refine Cd.skip (Cd.next ?_))
                  exact Cd.ret (ret1 (A' := []) rfl (Res.tmp rfl) (fun _ h => h.split) ⟨rfl, rfl⟩)
                | true =>
                  repeat' (first | refine Ops.mv rfl rfl rfl rfl ?_ | refine Ops.fa0 rfl rfl rfl rfl ?_ | refine Ops.ld1 rfl rfl rfl rfl rfl ?_ | refine Ops.ldN rfl rfl rfl rfl ?_ | refine Ops.bin rfl rfl rfl rfl rfl ?_ | refine Ops.pickT rfl rfl rfl rfl rfl ?_ | refine Ops.bld rfl rfl rfl rfl ?_ | fail)
                  refine Ops.callV (fi := []) (ca := [ptr cb]) (vs := [_]) (check1_spec cb c a k _ 114 rfl) rfl (by first | exact noPd rfl | (intro v A' hR i hi; obtain ⟨A2, hR, rfl⟩ := hR; (try obtain ⟨rfl, rfl⟩ := hR); (repeat (rcases List.mem_cons.1 hi with rfl | hi; · (first | exact Still.ld1 rfl rfl rfl rfl rfl | exact Still.ldN rfl rfl rfl rfl | exact Still.len rfl rfl rfl rfl rfl | exact Still.skip rfl rfl rfl | exact Still.skipU rfl rfl rfl rfl | exact Still.ldRow1 rfl rfl rfl (by assumption) (by assumption) rfl rfl | exact Still.ldR rfl rfl rfl (by apply_assumption) rfl))); cases hi)) rfl rfl rfl rfl (fun v A' hR => ?_)
                  obtain ⟨rfl, rfl⟩ := hR
                  skip
                  refine Ops.call (rin_spec c.rcode 0 7) rfl (by first | exact noPd rfl | (intro v A' hR i hi; obtain ⟨A2, hR, rfl⟩ := hR; (try obtain ⟨rfl, rfl⟩ := hR); (repeat (rcases List.mem_cons.1 hi with rfl | hi; · (first | exact Still.ld1 rfl rfl rfl rfl rfl | exact Still.ldN rfl rfl rfl rfl | exact Still.len rfl rfl rfl rfl rfl | exact Still.skip rfl rfl rfl | exact Still.skipU rfl rfl rfl rfl | exact Still.ldRow1 rfl rfl rfl (by assumption) (by assumption) rfl rfl | exact Still.ldR rfl rfl rfl (by apply_assumption) rfl))); cases hi)) rfl rfl rfl (fun v A' hR => ?_)
                  obtain ⟨rfl, rfl⟩ := hR
                  by_cases h7 : 0 ≤ c.rcode ∧ c.rcode ≤ 7
                  · rw [decide_eq_true h7]
                    by_cases h0 : c.rcode = 0
                    · skip
                      repeat' (first | refine Ops.mv rfl rfl rfl rfl ?_ | refine Ops.fa0 rfl rfl rfl rfl ?_ | refine Ops.ld1 rfl rfl rfl rfl rfl ?_ | refine Ops.bin rfl rfl rfl rfl rfl ?_ | refine Ops.pickT rfl rfl rfl rfl rfl ?_ | refine Ops.gSkip rfl rfl rfl ?_ | ((fail_if_success refine Ops.probe rfl ?_); refine Ops.gT rfl rfl (by first | rfl | assumption | (simp only [decide_eq_true_eq, decide_eq_false_iff_not, Bool.not_eq_true', Bool.not_eq_false', Bool.not_eq_eq_eq_not, Bool.not_true, Bool.not_false, beq_iff_eq, beq_eq_false_iff_ne, ne_eq, decide_eq_decide, eq_self, true_iff, iff_true, not_true_eq_false, not_false_eq_true]; first | done | omega)) ?_))
                      refine Ops.call (rgt_spec _ _ _) rfl (noPd rfl) rfl rfl rfl (fun v A' hR => ?_)
                      obtain ⟨rfl, rfl⟩ := hR
                      rw [show rgt (hasC (hasS c.kind) 114) (decide (c.rcode = 0) && (decide (c.rbits = 0) && true)) (true) = rg7 c from by simp [rg7, h7, h0]]
                      cases hr7 : rg7 c with
                      | false =>
                        simp only [hr1, hr2, hr3, hr4, hr5, hr6, hr7, Bool.true_and, Bool.false_and, Bool.and_false, Bool.and_true, Bool.false_eq_true, if_false, if_true]
                        repeat' (first | refine Cd.seq ?_ | refine Cd.reg ?_ | refine Ops.nil ?_ | refine Ops.asg rfl rfl rfl rfl ?_ | refine Ops.pickT rfl rfl rfl rfl rfl ?_ | refine Cd.condF rfl rfl ?_ | refine Cd.skip (Cd.next ?_))
                        exact Cd.ret (ret1 (A' := []) rfl (Res.tmp rfl) (fun _ h => h.split) ⟨rfl, rfl⟩)
                      | true =>
                        simp only [hr1, hr2, hr3, hr4, hr5, hr6, hr7, Bool.true_and, Bool.false_and, Bool.and_false, Bool.and_true, Bool.false_eq_true, if_false, if_true]
                        repeat' (first | refine Cd.seq ?_ | refine Cd.reg ?_ | refine Ops.nil ?_ | refine Ops.asg rfl rfl rfl rfl ?_ | refine Ops.pickT rfl rfl rfl rfl rfl ?_ | refine Cd.condT rfl rfl ?_)
                        exact Cd.ret (ret1 (A' := []) rfl (Res.tmp rfl) (fun _ h => h.split) ⟨rfl, rfl⟩)
                    · skip
                      repeat' (first | refine Ops.mv rfl rfl rfl rfl ?_ | refine Ops.fa0 rfl rfl rfl rfl ?_ | refine Ops.ld1 rfl rfl rfl rfl rfl ?_ | refine Ops.bin rfl rfl rfl rfl rfl ?_ | refine Ops.pickT rfl rfl rfl rfl rfl ?_ | refine Ops.pickF rfl rfl rfl rfl rfl ?_ | ((fail_if_success refine Ops.probe rfl ?_); refine Ops.gF rfl rfl (by first | rfl | assumption | (simp only [decide_eq_true_eq, decide_eq_false_iff_not, Bool.not_eq_true', Bool.not_eq_false', Bool.not_eq_eq_eq_not, Bool.not_true, Bool.not_false, beq_iff_eq, beq_eq_false_iff_ne, ne_eq, decide_eq_decide, eq_self, true_iff, iff_true, not_true_eq_false, not_false_eq_true]; first | done | omega)) ?_))
                      refine Ops.call (rgt_spec _ _ _) rfl (noPd rfl) rfl rfl rfl (fun v A' hR => ?_)
                      obtain ⟨rfl, rfl⟩ := hR
                      rw [show rgt (hasC (hasS c.kind) 114) (decide (c.rcode = 0) && (decide (c.rbits = 0) && true)) (decide (c.rbits = 0)) = rg7 c from by simp [rg7, h7, h0]]
                      cases hr7 : rg7 c with
                      | false =>
                        simp only [hr1, hr2, hr3, hr4, hr5, hr6, hr7, Bool.true_and, Bool.false_and, Bool.and_false, Bool.and_true, Bool.false_eq_true, if_false, if_true]
                        repeat' (first | refine Cd.seq ?_ | refine Cd.reg ?_ | refine Ops.nil ?_ | refine Ops.asg rfl rfl rfl rfl ?_ | refine Ops.pickT rfl rfl rfl rfl rfl ?_ | refine Cd.condF rfl rfl ?_ | refine Cd.skip (Cd.next ?_))
                        exact Cd.ret (ret1 (A' := []) rfl (Res.tmp rfl) (fun _ h => h.split) ⟨rfl, rfl⟩)
                      | true =>
                        simp only [hr1, hr2, hr3, hr4, hr5, hr6, hr7, Bool.true_and, Bool.false_and, Bool.and_false, Bool.and_true, Bool.false_eq_true, if_false, if_true]
                        repeat' (first | refine Cd.seq ?_ | refine Cd.reg ?_ | refine Ops.nil ?_ | refine Ops.asg rfl rfl rfl rfl ?_ | refine Ops.pickT rfl rfl rfl rfl rfl ?_ | refine Cd.condT rfl rfl ?_)
                        exact Cd.ret (ret1 (A' := []) rfl (Res.tmp rfl) (fun _ h => h.split) ⟨rfl, rfl⟩)
                  · rw [decide_eq_false h7]
                    repeat' (first | refine Ops.mv rfl rfl rfl rfl ?_ | refine Ops.pickF rfl rfl rfl rfl rfl ?_ | refine Ops.gSkip rfl rfl rfl ?_ | refine Ops.gSkipU rfl rfl rfl rfl ?_)
                    refine Ops.call (rgt_spec _ _ _) rfl (noPd rfl) rfl rfl rfl (fun v A' hR => ?_)
                    obtain ⟨rfl, rfl⟩ := hR
                    rw [show rgt (hasC (hasS c.kind) 114) (decide (c.rcode = 0) && (decide (c.rbits = 0) && true)) (false) = rg7 c from by simp [rg7, h7]]
                    cases hr7 : rg7 c with
                    | false =>
                      simp only [hr1, hr2, hr3, hr4, hr5, hr6, hr7, Bool.true_and, Bool.false_and, Bool.and_false, Bool.and_true, Bool.false_eq_true, if_false, if_true]
                      repeat' (first | refine Cd.seq ?_ | refine Cd.reg ?_ | refine Ops.nil ?_ | refine Ops.asg rfl rfl rfl rfl ?_ | refine Ops.pickT rfl rfl rfl rfl rfl ?_ | refine Cd.condF rfl rfl ?_ | refine Cd.skip (Cd.next ?_))
                      exact Cd.ret (ret1 (A' := []) rfl (Res.tmp rfl) (fun _ h => h.split) ⟨rfl, rfl⟩)
                    | true =>
                      simp only [hr1, hr2, hr3, hr4, hr5, hr6, hr7, Bool.true_and, Bool.false_and, Bool.and_false, Bool.and_true, Bool.false_eq_true, if_false, if_true]
                      repeat' (first | refine Cd.seq ?_ | refine Cd.reg ?_ | refine Ops.nil ?_ | refine Ops.asg rfl rfl rfl rfl ?_ | refine Ops.pickT rfl rfl rfl rfl rfl ?_ | refine Cd.condT rfl rfl ?_)
                      exact Cd.ret (ret1 (A' := []) rfl (Res.tmp rfl) (fun _ h => h.split) ⟨rfl, rfl⟩)
            · have hr5 : rg5 c = false := by
                unfold rg5 rgt
                split
                · rw [decide_eq_false hs7, Bool.false_and]
                · rw [decide_eq_false (by omega : ¬ c.slot = 0), Bool.false_and]
              rw [decide_eq_false hs7]
              repeat' (first | refine Ops.mv rfl rfl rfl rfl ?_ | refine Ops.pickF rfl rfl rfl rfl rfl ?_ | refine Ops.gSkip rfl rfl rfl ?_ | refine Ops.gSkipE rfl (by first | exact noPd rfl | (intro v A' hR i hi; obtain ⟨rfl, rfl⟩ := hR; (repeat (rcases List.mem_cons.1 hi with rfl | hi; · (first | exact Still.ld1 rfl rfl rfl rfl rfl | exact Still.ldN rfl rfl rfl rfl | exact Still.len rfl rfl rfl rfl rfl | exact Still.skip rfl rfl rfl | exact Still.skipU rfl rfl rfl rfl | exact Still.ldRow1 rfl rfl rfl (by assumption) (by assumption) rfl rfl | exact Still.ldR rfl rfl rfl (by apply_assumption) rfl))); cases hi)) rfl rfl ?_)
              refine Ops.call (rgt_spec _ _ _) rfl (noPd rfl) rfl rfl rfl (fun v A' hR => ?_)
              obtain ⟨rfl, rfl⟩ := hR
              rw [show rgt (hasC (hasS c.kind) 115) (false) (false) = rg5 c from by simp [rg5, hs0, hs7], hr5]
              simp only [hr1, hr2, hr3, hr4, hr5, Bool.true_and, Bool.false_and, Bool.and_false, Bool.and_true, Bool.false_eq_true, if_false, if_true]
              repeat' (first | refine Cd.seq ?_ | refine Cd.reg ?_ | refine Ops.nil ?_ | refine Ops.mv rfl rfl rfl rfl ?_ | refine Ops.asg rfl rfl rfl rfl ?_ | refine Ops.pickT rfl rfl rfl rfl rfl ?_ | refine Ops.pickF rfl rfl rfl rfl rfl ?_ | refine Ops.gSkip rfl rfl rfl ?_ | refine Ops.gSkipE rfl (by first | exact noPd rfl | (intro v A' hR i hi; obtain ⟨rfl, rfl⟩ := hR; (repeat (rcases List.mem_cons.1 hi with rfl | hi; · (first | exact Still.ld1 rfl rfl rfl rfl rfl | exact Still.ldN rfl rfl rfl rfl | exact Still.len rfl rfl rfl rfl rfl | exact Still.skip rfl rfl rfl | exact Still.skipU rfl rfl rfl rfl | exact Still.ldRow1 rfl rfl rfl (by assumption) (by assumption) rfl rfl | exact Still.ldR rfl rfl rfl (by apply_assumption) rfl))); cases hi)) rfl rfl ?_ | refine Ops.gSkipU rfl rfl rfl rfl ?_ | refine Cd.condF rfl rfl ?_ | refine Cd.skip (Cd.next ?_))
              exact Cd.ret (ret1 (A' := []) rfl (Res.tmp rfl) (fun _ h => h.split) ⟨rfl, rfl⟩)
end Go.Proofs.YtnmjdoaogdaehaaGreat
