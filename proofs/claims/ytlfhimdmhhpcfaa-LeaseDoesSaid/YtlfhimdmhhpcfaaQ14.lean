import Derived.Test.YtlfhimdmhhpcfaaQ13
namespace Go.Proofs.Ytlfhimdmhhpcfaa
open Go Go.Sep Go.Proofs
set_option maxRecDepth 10000
set_option maxHeartbeats 4000000
set_option synthInstance.maxSize 2000
set_option linter.unusedSimpArgs false
set_option linter.unusedVariables false

theorem place_in (x : Int) (many : Nat) (h1 : 0 < many) (h2 : many ≤ 1000000) : Con Try.prog 14 #[.int .i64 x, .int .i64 many] [] fun v A => (∃ j : Nat, j < many ∧ v = .int .i64 j) ∧ A = [] := by
  obtain ⟨j, hj, hjr⟩ := round_in x h1
  refine Con.intro (vs := [_, _]) Try.func14 rfl Try.ntmps14 rfl (fun B => ?_)
  repeat' (first | refine Cd.seq ?_ | refine Cd.reg ?_ | refine Ops.mv rfl rfl rfl rfl ?_ | refine Ops.asg rfl rfl rfl rfl ?_)
  refine Ops.remI rfl rfl rfl rfl (by omega) rfl ?_
  rcases hjr with ⟨hneg, hj2⟩ | ⟨hpos, hj2⟩
  · have hlow : 0 ≤ x.tmod many + many := by omega
    repeat' (first | refine Cd.seq ?_ | refine Cd.reg ?_ | refine Ops.nil ?_ | refine Ops.mv rfl rfl rfl rfl ?_ | refine Ops.asg rfl rfl rfl rfl ?_ | refine Ops.addI rfl rfl rfl rfl (by omega) (by omega) rfl ?_ | refine Ops.bin rfl rfl rfl rfl rfl ?_ | refine Cd.condT rfl (by first | rfl | assumption | (simp only [decide_eq_true_eq, decide_eq_false_iff_not, Bool.not_eq_true', Bool.not_eq_false', Bool.not_eq_eq_eq_not, Bool.not_true, Bool.not_false, beq_iff_eq, beq_eq_false_iff_ne, ne_eq, decide_eq_decide, eq_self, true_iff, iff_true, not_true_eq_false, not_false_eq_true]; first | done | omega)) ?_)
    exact Cd.ret (ret1 rfl (Res.tmp rfl) (fun _ h => h) ⟨⟨j, hj, by rw [hj2]⟩, rfl⟩)
  · repeat' (first | refine Cd.seq ?_ | refine Cd.reg ?_ | refine Ops.nil ?_ | refine Ops.mv rfl rfl rfl rfl ?_ | refine Ops.asg rfl rfl rfl rfl ?_ | refine Ops.bin rfl rfl rfl rfl rfl ?_ | refine Cd.skip (Cd.next ?_) | refine Cd.condF rfl (by first | rfl | assumption | (simp only [decide_eq_true_eq, decide_eq_false_iff_not, Bool.not_eq_true', Bool.not_eq_false', Bool.not_eq_eq_eq_not, Bool.not_true, Bool.not_false, beq_iff_eq, beq_eq_false_iff_ne, ne_eq, decide_eq_decide, eq_self, true_iff, iff_true, not_true_eq_false, not_false_eq_true]; first | done | omega)) ?_)
    exact Cd.ret (ret1 rfl (Res.tmp rfl) (fun _ h => h) ⟨⟨j, hj, by rw [hj2]⟩, rfl⟩)
theorem RsL.take {ra : Option Addr} {rc : Nat} {l : List LE} {G : List Blk} (h : RsL (.slice ra l.length rc) l G) (j : Nat) : Rs 40 5 (.slice ra (min j l.length) rc) ((l.take j).map LE.row) G := by
  refine ⟨lrows_ok _, ?_⟩
  have e0 : ((l.take j).map LE.row).length = min j l.length := by rw [List.length_map, List.length_take]
  rcases h.1.2 with ⟨h1, h2, rfl⟩ | ⟨g, c, sp, h1, h2⟩
  · obtain rfl : l = [] := by simpa using h2
    injection h1 with q1 q2 q3
    subst q1; subst q3
    exact .inl ⟨by simp, by simp, rfl⟩
  · injection h1 with q1 q2 q3
    subst q1; subst q3
    refine .inr ⟨g, rc, ((l.drop j).map LE.row).flatten ++ sp, by rw [e0], ?_⟩
    rw [h2, ← List.append_assoc, ← List.flatten_append, ← List.map_append, List.take_append_drop]

theorem answers_spec (n mb m : Nat) (ticks : Int) (l : List LE) (es : List ME) (ck : Nat) (rv : Value) (G : List Blk) (o : SOp) (h : TOk ticks l es ck) (hr : RsL rv l G) :
    Con Try.prog 25 #[.agg [ptr n, ptr m].toArray, .agg o.row.toArray] (TB n mb ticks es ck ++ (RT m ticks rv ++ G))
      fun v A => v = .bool true ∧ ∃ l' es' ck' rv' N, A = TB n mb ticks es' ck' ++ (RT m ticks rv' ++ (N ++ G)) ∧ TOk ticks l' es' ck' ∧ Left rv rv' l l' N := by
  have hfew := h.lok.few
  have hr' := hr
  obtain ⟨ra, rc, rfl⟩ := hr'.form
  have hcap : l.length ≤ rc := hr.2
  refine Con.intro (vs := [_, _]) Try.func25 rfl Try.ntmps25 rfl (fun B => ?_)
  by_cases h0 : o.kind = 0
  · repeat' (first | refine Cd.seq ?_ | refine Cd.reg ?_ | refine Ops.nil ?_ | refine Ops.asg rfl rfl rfl rfl ?_ | refine Ops.fa0 rfl rfl rfl rfl ?_ | refine Ops.ld1 rfl rfl rfl rfl rfl ?_ | refine Ops.bin rfl rfl rfl rfl rfl ?_ | refine Ops.box rfl rfl rfl rfl (noPd rfl) (fun b => ?_) | refine Cd.block ?_ | refine Cd.condT rfl (by first | rfl | assumption | (simp only [decide_eq_true_eq, decide_eq_false_iff_not, Bool.not_eq_true', Bool.not_eq_false', Bool.not_eq_eq_eq_not, Bool.not_true, Bool.not_false, beq_iff_eq, beq_eq_false_iff_ne, ne_eq, decide_eq_decide, eq_self, true_iff, iff_true, not_true_eq_false, not_false_eq_true]; first | done | omega)) ?_)
    refine Cd.draw [(0, 0, []), (1, 1, []), (2, 0, []), (3, 1, []), (4, 0, []), (5, 1, []), (6, 0, []), (7, 1, []), (9, 0, []), (10, 1, []), (11, 0, []), (12, 1, []), (13, 0, []), (14, 1, []), (15, 0, []), (16, 1, []), (8, 2, [10, 12, 14, 16]), (17, 2, []), (18, 0, []), (19, 0, [])] (by kernel_rfl) (by kernel_rfl) (by simp only [picked, nth]; exact rfl) ?_
    repeat' (first | refine Ops.fa0 rfl rfl rfl rfl ?_ | refine Ops.ld1 rfl rfl rfl rfl rfl ?_ | refine Ops.ldN rfl rfl rfl rfl ?_)
    refine Ops.call (grant_spec n mb ticks l es ck o.job o.badge o.node o.life h) rfl (by first | exact noPd rfl | (intro v A' hR i hi; obtain ⟨A2, hR, rfl⟩ := hR; (try obtain ⟨rfl, rfl⟩ := hR); (repeat (rcases List.mem_cons.1 hi with rfl | hi; · (first | exact Still.ld1 rfl rfl rfl rfl rfl | exact Still.ldN rfl rfl rfl rfl | exact Still.len rfl rfl rfl rfl rfl | exact Still.skip rfl rfl rfl | exact Still.ldRow1 rfl rfl rfl (by assumption) (by assumption) rfl rfl | exact Still.ldR rfl rfl rfl (by apply_assumption) rfl))); cases hi)) rfl rfl rfl (fun v A' hR => ?_)
    obtain ⟨rfl, es', ck', rfl, hT⟩ := hR
    skip
    refine Ops.call (rgrant_spec m ticks (.slice ra l.length rc) l G o.job o.badge o.node o.life hr hfew) rfl (noPd rfl) rfl rfl rfl (fun v A' hR => ?_)
    obtain ⟨rfl, rv', N, rfl, hL⟩ := hR
    repeat' (first | refine Ops.nil ?_ | refine Ops.asg rfl rfl rfl rfl ?_ | refine Ops.bin rfl rfl rfl rfl rfl ?_)
    exact Cd.ret (inBr (ret1 (A' := TB n mb ticks es' ck' ++ (RT m ticks rv' ++ (N ++ G))) rfl (Res.tmp rfl) (fun _ h => h.split) ⟨by simp, _, es', ck', rv', N, rfl, hT, hL⟩))
  · by_cases h1 : o.kind = 1
    · repeat' (first | refine Cd.seq ?_ | refine Cd.reg ?_ | refine Ops.nil ?_ | refine Ops.asg rfl rfl rfl rfl ?_ | refine Ops.fa0 rfl rfl rfl rfl ?_ | refine Ops.ld1 rfl rfl rfl rfl rfl ?_ | refine Ops.bin rfl rfl rfl rfl rfl ?_ | refine Ops.box rfl rfl rfl rfl (noPd rfl) (fun b => ?_) | refine Cd.block ?_ | refine Cd.condT rfl (by first | rfl | assumption | (simp only [decide_eq_true_eq, decide_eq_false_iff_not, Bool.not_eq_true', Bool.not_eq_false', Bool.not_eq_eq_eq_not, Bool.not_true, Bool.not_false, beq_iff_eq, beq_eq_false_iff_ne, ne_eq, decide_eq_decide, eq_self, true_iff, iff_true, not_true_eq_false, not_false_eq_true]; first | done | omega)) ?_ | refine Cd.condF rfl (by first | rfl | assumption | (simp only [decide_eq_true_eq, decide_eq_false_iff_not, Bool.not_eq_true', Bool.not_eq_false', Bool.not_eq_eq_eq_not, Bool.not_true, Bool.not_false, beq_iff_eq, beq_eq_false_iff_ne, ne_eq, decide_eq_decide, eq_self, true_iff, iff_true, not_true_eq_false, not_false_eq_true]; first | done | omega)) ?_)
      refine Cd.draw [(0, 0, []), (1, 1, []), (2, 0, []), (3, 1, []), (5, 0, []), (6, 1, []), (7, 0, []), (8, 1, []), (4, 2, [6, 8]), (9, 2, []), (10, 0, []), (11, 0, [])] (by kernel_rfl) (by kernel_rfl) (by simp only [picked, nth]; exact rfl) ?_
      repeat' (first | refine Ops.fa0 rfl rfl rfl rfl ?_ | refine Ops.ld1 rfl rfl rfl rfl rfl ?_)
      refine Ops.call (renew_spec n mb ticks l es ck o.badge h) rfl (by first | exact noPd rfl | (intro v A' hR i hi; obtain ⟨A2, hR, rfl⟩ := hR; (try obtain ⟨rfl, rfl⟩ := hR); (repeat (rcases List.mem_cons.1 hi with rfl | hi; · (first | exact Still.ld1 rfl rfl rfl rfl rfl | exact Still.ldN rfl rfl rfl rfl | exact Still.len rfl rfl rfl rfl rfl | exact Still.skip rfl rfl rfl | exact Still.ldRow1 rfl rfl rfl (by assumption) (by assumption) rfl rfl | exact Still.ldR rfl rfl rfl (by apply_assumption) rfl))); cases hi)) rfl rfl rfl (fun v A' hR => ?_)
      obtain ⟨rfl, es', ck', rfl, hT⟩ := hR
      skip
      refine Ops.call (rrenew_spec m ticks (.slice ra l.length rc) l G o.badge hr hfew h.lok.asc) rfl (noPd rfl) rfl rfl rfl (fun v A' hR => ?_)
      obtain ⟨rfl, rv', N, rfl, hL⟩ := hR
      repeat' (first | refine Ops.nil ?_ | refine Ops.asg rfl rfl rfl rfl ?_ | refine Ops.bin rfl rfl rfl rfl rfl ?_)
      exact Cd.ret (inBr (ret1 (A' := TB n mb ticks es' ck' ++ (RT m ticks rv' ++ (N ++ G))) rfl (Res.tmp rfl) (fun _ h => h.split) ⟨by simp, _, es', ck', rv', N, rfl, hT, hL⟩))
    · by_cases h2 : o.kind = 2
      · repeat' (first | refine Cd.seq ?_ | refine Cd.reg ?_ | refine Ops.nil ?_ | refine Ops.asg rfl rfl rfl rfl ?_ | refine Ops.fa0 rfl rfl rfl rfl ?_ | refine Ops.ld1 rfl rfl rfl rfl rfl ?_ | refine Ops.bin rfl rfl rfl rfl rfl ?_ | refine Ops.box rfl rfl rfl rfl (noPd rfl) (fun b => ?_) | refine Cd.block ?_ | refine Cd.condT rfl (by first | rfl | assumption | (simp only [decide_eq_true_eq, decide_eq_false_iff_not, Bool.not_eq_true', Bool.not_eq_false', Bool.not_eq_eq_eq_not, Bool.not_true, Bool.not_false, beq_iff_eq, beq_eq_false_iff_ne, ne_eq, decide_eq_decide, eq_self, true_iff, iff_true, not_true_eq_false, not_false_eq_true]; first | done | omega)) ?_ | refine Cd.condF rfl (by first | rfl | assumption | (simp only [decide_eq_true_eq, decide_eq_false_iff_not, Bool.not_eq_true', Bool.not_eq_false', Bool.not_eq_eq_eq_not, Bool.not_true, Bool.not_false, beq_iff_eq, beq_eq_false_iff_ne, ne_eq, decide_eq_decide, eq_self, true_iff, iff_true, not_true_eq_false, not_false_eq_true]; first | done | omega)) ?_)
        refine Cd.draw [(0, 0, []), (1, 1, []), (2, 0, []), (3, 1, []), (5, 0, []), (6, 1, []), (7, 0, []), (8, 1, []), (4, 2, [6, 8]), (9, 2, []), (10, 0, []), (11, 0, [])] (by kernel_rfl) (by kernel_rfl) (by simp only [picked, nth]; exact rfl) ?_
        repeat' (first | refine Ops.fa0 rfl rfl rfl rfl ?_ | refine Ops.ld1 rfl rfl rfl rfl rfl ?_)
        refine Ops.call (drop_spec n mb ticks l es ck o.badge h) rfl (by first | exact noPd rfl | (intro v A' hR i hi; obtain ⟨A2, hR, rfl⟩ := hR; (try obtain ⟨rfl, rfl⟩ := hR); (repeat (rcases List.mem_cons.1 hi with rfl | hi; · (first | exact Still.ld1 rfl rfl rfl rfl rfl | exact Still.ldN rfl rfl rfl rfl | exact Still.len rfl rfl rfl rfl rfl | exact Still.skip rfl rfl rfl | exact Still.ldRow1 rfl rfl rfl (by assumption) (by assumption) rfl rfl | exact Still.ldR rfl rfl rfl (by apply_assumption) rfl))); cases hi)) rfl rfl rfl (fun v A' hR => ?_)
        obtain ⟨rfl, es', ck', rfl, hT⟩ := hR
        skip
        refine Ops.call (rdrop_spec m ticks (.slice ra l.length rc) l G o.badge hr hfew) rfl (noPd rfl) rfl rfl rfl (fun v A' hR => ?_)
        obtain ⟨rfl, rv', N, rfl, hL⟩ := hR
        repeat' (first | refine Ops.nil ?_ | refine Ops.asg rfl rfl rfl rfl ?_ | refine Ops.bin rfl rfl rfl rfl rfl ?_)
        exact Cd.ret (inBr (ret1 (A' := TB n mb ticks es' ck' ++ (RT m ticks rv' ++ (N ++ G))) rfl (Res.tmp rfl) (fun _ h => h.split) ⟨by simp, _, es', ck', rv', N, rfl, hT, hL⟩))
      · by_cases h3 : o.kind = 3
        · repeat' (first | refine Cd.seq ?_ | refine Cd.reg ?_ | refine Ops.nil ?_ | refine Ops.asg rfl rfl rfl rfl ?_ | refine Ops.fa0 rfl rfl rfl rfl ?_ | refine Ops.ld1 rfl rfl rfl rfl rfl ?_ | refine Ops.bin rfl rfl rfl rfl rfl ?_ | refine Ops.box rfl rfl rfl rfl (noPd rfl) (fun b => ?_) | refine Cd.block ?_ | refine Cd.condT rfl (by first | rfl | assumption | (simp only [decide_eq_true_eq, decide_eq_false_iff_not, Bool.not_eq_true', Bool.not_eq_false', Bool.not_eq_eq_eq_not, Bool.not_true, Bool.not_false, beq_iff_eq, beq_eq_false_iff_ne, ne_eq, decide_eq_decide, eq_self, true_iff, iff_true, not_true_eq_false, not_false_eq_true]; first | done | omega)) ?_ | refine Cd.condF rfl (by first | rfl | assumption | (simp only [decide_eq_true_eq, decide_eq_false_iff_not, Bool.not_eq_true', Bool.not_eq_false', Bool.not_eq_eq_eq_not, Bool.not_true, Bool.not_false, beq_iff_eq, beq_eq_false_iff_ne, ne_eq, decide_eq_decide, eq_self, true_iff, iff_true, not_true_eq_false, not_false_eq_true]; first | done | omega)) ?_)
          refine Cd.draw [(0, 0, []), (1, 1, []), (3, 0, []), (4, 1, []), (2, 2, [4]), (5, 2, []), (6, 2, []), (7, 0, [])] (by kernel_rfl) (by kernel_rfl) (by simp only [picked, nth]; exact rfl) ?_
          repeat' (first | refine Ops.fa0 rfl rfl rfl rfl ?_ | refine Ops.ld1 rfl rfl rfl rfl rfl ?_)
          refine Ops.call (tick_spec n mb ticks l es ck h) rfl (by first | exact noPd rfl | (intro v A' hR i hi; obtain ⟨A2, hR, rfl⟩ := hR; (try obtain ⟨rfl, rfl⟩ := hR); (repeat (rcases List.mem_cons.1 hi with rfl | hi; · (first | exact Still.ld1 rfl rfl rfl rfl rfl | exact Still.ldN rfl rfl rfl rfl | exact Still.len rfl rfl rfl rfl rfl | exact Still.skip rfl rfl rfl | exact Still.ldRow1 rfl rfl rfl (by assumption) (by assumption) rfl rfl | exact Still.ldR rfl rfl rfl (by apply_assumption) rfl))); cases hi)) rfl rfl rfl (fun v A' hR => ?_)
          obtain ⟨es', ck', G1, hRs, rfl, hT⟩ := hR
          obtain ⟨va, vc, rfl⟩ := hRs.form
          skip
          refine Ops.call (rtick_spec m ticks (.slice ra l.length rc) l G hr h.lok) rfl (noPd rfl) rfl rfl rfl (fun v A' hR => ?_)
          obtain ⟨rv', N, G2, rfl, hRs2, hL⟩ := hR
          obtain ⟨wa, wc, rfl⟩ := hRs2.form
          have hol := overF_len l
          skip
          refine Ops.call (same_eq _ _ (overF l) G1 G2 hRs hRs2.1 (by omega)) rfl (noPd rfl) rfl rfl rfl (fun v A' hR => ?_)
          obtain ⟨rfl, rfl⟩ := hR
          repeat' (first | refine Ops.nil ?_ | refine Ops.asg rfl rfl rfl rfl ?_)
          exact Cd.ret (inBr (ret1 (A' := TB n mb ticks es' ck' ++ (RT m ticks rv' ++ (N ++ G))) rfl (Res.tmp rfl) (fun _ h => h.split) ⟨rfl, restF l, es', ck', rv', N, rfl, hT, .inr hL⟩))
        · by_cases h4 : o.kind = 4
          · repeat' (first | refine Cd.seq ?_ | refine Cd.reg ?_ | refine Ops.nil ?_ | refine Ops.asg rfl rfl rfl rfl ?_ | refine Ops.fa0 rfl rfl rfl rfl ?_ | refine Ops.ld1 rfl rfl rfl rfl rfl ?_ | refine Ops.bin rfl rfl rfl rfl rfl ?_ | refine Ops.box rfl rfl rfl rfl (noPd rfl) (fun b => ?_) | refine Cd.block ?_ | refine Cd.condT rfl (by first | rfl | assumption | (simp only [decide_eq_true_eq, decide_eq_false_iff_not, Bool.not_eq_true', Bool.not_eq_false', Bool.not_eq_eq_eq_not, Bool.not_true, Bool.not_false, beq_iff_eq, beq_eq_false_iff_ne, ne_eq, decide_eq_decide, eq_self, true_iff, iff_true, not_true_eq_false, not_false_eq_true]; first | done | omega)) ?_ | refine Cd.condF rfl (by first | rfl | assumption | (simp only [decide_eq_true_eq, decide_eq_false_iff_not, Bool.not_eq_true', Bool.not_eq_false', Bool.not_eq_eq_eq_not, Bool.not_true, Bool.not_false, beq_iff_eq, beq_eq_false_iff_ne, ne_eq, decide_eq_decide, eq_self, true_iff, iff_true, not_true_eq_false, not_false_eq_true]; first | done | omega)) ?_)
            refine Ops.call (find_spec n mb ticks l es ck o.badge h) rfl (noPd rfl) rfl rfl rfl (fun v A' hR => ?_)
            obtain ⟨rfl, rfl⟩ := hR
            have hrf := rfind_spec m ticks (.slice ra l.length rc) l G o.badge hr hfew h.lok.asc
            generalize (lfind l o.badge).getD LE.zero = x at hrf ⊢
            generalize (lfind l o.badge).isSome = bb at hrf ⊢
            repeat' (first | refine Cd.seq ?_ | refine Cd.reg ?_ | refine Ops.mv rfl rfl rfl rfl ?_ | refine Ops.asg rfl rfl rfl rfl ?_ | refine Ops.fa0 rfl rfl rfl rfl ?_ | refine Ops.ld1 rfl rfl rfl rfl rfl ?_ | refine Ops.ext rfl rfl rfl rfl rfl ?_ | refine Ops.alloc rfl rfl rfl (noPd rfl) (fun b => ?_) | refine Ops.stN rfl rfl rfl rfl rfl rfl (noPd rfl) ?_)
            refine Ops.call hrf rfl (noPd rfl) rfl rfl rfl (fun v A' hR => ?_)
            obtain ⟨rfl, rfl⟩ := hR
            repeat' (first | refine Cd.seq ?_ | refine Cd.reg ?_ | refine Ops.nil ?_ | refine Ops.mv rfl rfl rfl rfl ?_ | refine Ops.asg rfl rfl rfl rfl ?_ | refine Ops.ldN rfl rfl rfl rfl ?_ | refine Ops.bin rfl rfl rfl rfl rfl ?_ | refine Ops.pickT rfl rfl rfl rfl rfl ?_ | refine Ops.ext rfl rfl rfl rfl rfl ?_ | refine Ops.alloc rfl rfl rfl (noPd rfl) (fun b => ?_) | refine Ops.stN rfl rfl rfl rfl rfl rfl (noPd rfl) ?_)
            exact Cd.ret (inBr (ret1 (A' := TB n mb ticks es ck ++ (RT m ticks (.slice ra l.length rc) ++ ([] ++ G))) rfl (Res.tmp rfl) (fun _ h => h.split) ⟨by simp, l, es, ck, _, [], rfl, h, .inl ⟨rfl, rfl⟩⟩))
          · by_cases h5 : o.kind = 5
            · repeat' (first | refine Cd.seq ?_ | refine Cd.reg ?_ | refine Ops.nil ?_ | refine Ops.asg rfl rfl rfl rfl ?_ | refine Ops.fa0 rfl rfl rfl rfl ?_ | refine Ops.ld1 rfl rfl rfl rfl rfl ?_ | refine Ops.bin rfl rfl rfl rfl rfl ?_ | refine Ops.box rfl rfl rfl rfl (noPd rfl) (fun b => ?_) | refine Cd.block ?_ | refine Cd.condT rfl (by first | rfl | assumption | (simp only [decide_eq_true_eq, decide_eq_false_iff_not, Bool.not_eq_true', Bool.not_eq_false', Bool.not_eq_eq_eq_not, Bool.not_true, Bool.not_false, beq_iff_eq, beq_eq_false_iff_ne, ne_eq, decide_eq_decide, eq_self, true_iff, iff_true, not_true_eq_false, not_false_eq_true]; first | done | omega)) ?_ | refine Cd.condF rfl (by first | rfl | assumption | (simp only [decide_eq_true_eq, decide_eq_false_iff_not, Bool.not_eq_true', Bool.not_eq_false', Bool.not_eq_eq_eq_not, Bool.not_true, Bool.not_false, beq_iff_eq, beq_eq_false_iff_ne, ne_eq, decide_eq_decide, eq_self, true_iff, iff_true, not_true_eq_false, not_false_eq_true]; first | done | omega)) ?_)
              refine Ops.call (place_in o.job 10 (by decide) (by decide)) rfl (noPd rfl) rfl rfl rfl (fun v A' hR => ?_)
              obtain ⟨⟨j, hj, rfl⟩, rfl⟩ := hR
              repeat' (first | refine Cd.seq ?_ | refine Cd.reg ?_ | refine Ops.mv rfl rfl rfl rfl ?_ | refine Ops.asg rfl rfl rfl rfl ?_ | refine Ops.fa0 rfl rfl rfl rfl ?_ | refine Ops.ld1 rfl rfl rfl rfl rfl ?_)
              refine Ops.call (lall_spec n mb ticks l es ck j h) rfl (noPd rfl) rfl rfl rfl (fun v A' hR => ?_)
              obtain ⟨sv1, G1, rfl, hO1, rfl⟩ := hR
              obtain ⟨a1, c1, rfl⟩ := hO1.form
              repeat' (first | refine Cd.seq ?_ | refine Ops.mv rfl rfl rfl rfl ?_ | refine Ops.asg rfl rfl rfl rfl ?_ | refine Ops.ext rfl rfl rfl rfl rfl ?_)
              refine Cd.draw [(0, 0, []), (1, 0, []), (2, 0, []), (3, 0, []), (4, 1, []), (5, 0, []), (6, 0, []), (7, 1, []), (8, 0, []), (9, 0, []), (10, 1, []), (11, 0, []), (12, 0, []), (13, 1, []), (14, 1, []), (15, 0, []), (16, 0, []), (17, 2, []), (18, 0, []), (19, 0, [])] (by kernel_rfl) (by kernel_rfl) (by simp only [picked, nth]; exact rfl) ?_
              repeat' (first | refine Ops.mv rfl rfl rfl rfl ?_ | refine Ops.nilP rfl rfl rfl rfl ?_ | refine Ops.fa0 rfl rfl rfl rfl ?_ | refine Ops.ld1 rfl rfl rfl rfl rfl ?_ | refine Ops.lenS rfl rfl rfl rfl ?_ | refine Ops.minI rfl rfl rfl rfl rfl ?_ | refine Ops.slHi rfl rfl rfl rfl (by omega) (by omega) rfl ?_)
              have e9 : (min (j : Int) (l.length : Int)).toNat = min j l.length := by omega
              rw [e9]
              refine Ops.call (same_eq _ _ (l.take j) G1 G hO1.rs.1 (hr.take j) (by rw [List.length_take]; omega)) rfl (noPd rfl) rfl rfl rfl (fun v A' hR => ?_)
              obtain ⟨rfl, rfl⟩ := hR
              repeat' (first | refine Ops.nil ?_ | refine Ops.asg rfl rfl rfl rfl ?_ | refine Ops.pickT rfl rfl rfl rfl rfl ?_)
              exact Cd.ret (inBr (ret1 (A' := TB n mb ticks es ck ++ (RT m ticks (.slice ra l.length rc) ++ ([] ++ G))) rfl (Res.tmp rfl) (fun _ h => h.split) ⟨rfl, l, es, ck, _, [], rfl, h, .inl ⟨rfl, rfl⟩⟩))
            · repeat' (first | refine Cd.seq ?_ | refine Cd.reg ?_ | refine Ops.nil ?_ | refine Ops.asg rfl rfl rfl rfl ?_ | refine Ops.fa0 rfl rfl rfl rfl ?_ | refine Ops.ld1 rfl rfl rfl rfl rfl ?_ | refine Ops.bin rfl rfl rfl rfl rfl ?_ | refine Ops.box rfl rfl rfl rfl (noPd rfl) (fun b => ?_) | refine Cd.block ?_ | refine Cd.skip (Cd.next (Q' := fun _ _ _ => True) ?_) | refine Cd.condF rfl (by first | rfl | assumption | (simp only [decide_eq_true_eq, decide_eq_false_iff_not, Bool.not_eq_true', Bool.not_eq_false', Bool.not_eq_eq_eq_not, Bool.not_true, Bool.not_false, beq_iff_eq, beq_eq_false_iff_ne, ne_eq, decide_eq_decide, eq_self, true_iff, iff_true, not_true_eq_false, not_false_eq_true]; first | done | omega)) ?_)
              exact Cd.ret (ret1 (A' := TB n mb ticks es ck ++ (RT m ticks (.slice ra l.length rc) ++ ([] ++ G))) rfl (Res.tmp rfl) (fun _ h => h.split) ⟨rfl, l, es, ck, _, [], rfl, h, .inl ⟨rfl, rfl⟩⟩)
end Go.Proofs.Ytlfhimdmhhpcfaa
