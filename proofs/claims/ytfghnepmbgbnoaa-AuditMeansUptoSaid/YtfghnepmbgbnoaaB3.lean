import Derived.Test.YtfghnepmbgbnoaaB2
namespace Go.Proofs.Ytfghnepmbgbnoaa
open Go Go.Sep Go.Proofs
set_option maxRecDepth 10000
set_option maxHeartbeats 16000000
set_option synthInstance.maxSize 2000
set_option linter.unusedSimpArgs false
set_option linter.unusedVariables false

theorem rstored_spec (B0 : Base) (bd : Nat) (ja : Option Addr) (jc : Nat) (jobs : List RJ) (JG : List Blk) (gr shn : Int) (ea : Option Addr) (ec : Nat) (em : List Ev) (v3 v4 v5 v6 v7 : Value) (tot : Nat) (e : Ev) (hO : OwnR (.slice ja jobs.length jc) jobs JG) (few : jobs.length ≤ 8) (hs0 : 0 ≤ shn) (hs8 : shn ≤ 8) (hV : VIn B0 ea em) (hem : em.length ≤ 2000000) (hL : ∀ x ∈ jobs, SIn B0 x.la x.log ∧ x.log.length ≤ tot) (hS : SIn B0 e.ta e.texts) (hi0 : 0 ≤ e.index) (hi1 : e.index ≤ 1099511627776) (hbig : tot + e.texts.length ≤ 2000000) :
    ConB Try.prog B0 37 #[ptr bd, .agg e.row.toArray] (BKv bd (.slice ja jobs.length jc) (.int .i64 gr) (.slice ea em.length ec) v3 v4 v5 v6 v7 (.int .i64 shn) :: JG) (JAct bd (.slice ea em.length ec) v3 v4 v5 v6 v7 jobs (tot + e.texts.length)) := by
  by_cases hk : 1 ≤ e.job ∧ e.job ≤ jobs.length
  · skip
    obtain ⟨x, hx⟩ : ∃ x, jobs[(e.job - 1).toNat]? = some x := ⟨_, List.getElem?_eq_getElem (by omega)⟩
    have hlt := (List.getElem?_eq_some_iff.1 hx).1
    obtain ⟨g, spare, rfl, _, rfl, hsp, hle⟩ := hO.some_ (by omega)
    have hok := rj_ok jobs
    have hrow : (jobs.map RJ.row)[(e.job - 1).toNat]? = some x.row := by rw [List.getElem?_map, hx]; rfl
    obtain ⟨hxS, hxl⟩ := hL x (List.mem_of_getElem? hx)
    have hml : (x.log.map srow).length = x.log.length := List.length_map _
    have hmt : (e.texts.map srow).length = e.texts.length := List.length_map _
    refine ConB.intro (vs := [_, _]) Try.func37 rfl Try.ntmps37 rfl (fun B hB => ?_)
    repeat' (first | refine Cd.seq ?_ | refine Cd.reg ?_ | refine Ops.mv rfl rfl rfl rfl ?_ | refine Ops.asg rfl rfl rfl rfl ?_ | refine Ops.fa0 rfl rfl rfl rfl ?_ | refine Ops.ld1 rfl rfl rfl rfl rfl ?_ | refine Ops.box rfl rfl rfl rfl (noPd rfl) (fun b => ?_))
    refine Ops.call (rheldC bd (some ⟨g, 0, none⟩) jc jobs [(g, cl ((jobs.map RJ.row).flatten ++ spare) 78)] (.int .i64 gr) (.slice ea em.length ec) v3 v4 v5 v6 v7 (.int .i64 shn) e.job e.badge hO (by omega)) rfl (noPd rfl) rfl rfl rfl (fun v A' hR => ?_)
    obtain ⟨⟨hc, rfl, hh⟩, rfl⟩ := hR
    cases hc
    · skip
      repeat' (first | refine Cd.seq ?_ | refine Cd.reg ?_ | refine Ops.nil ?_ | refine Ops.mv rfl rfl rfl rfl ?_ | refine Ops.asg rfl rfl rfl rfl ?_ | refine Ops.un rfl rfl rfl rfl ?_ | refine Ops.bs1 rfl rfl rfl rfl rfl rfl rfl (noPd rfl) (fun b => ?_) | refine Cd.condT rfl rfl ?_)
      exact Cd.ret (ret1 (A' := BKv bd (.slice (some ⟨g, 0, none⟩) jobs.length jc) (.int .i64 gr) (.slice ea em.length ec) v3 v4 v5 v6 v7 (.int .i64 shn) :: ([(g, cl ((jobs.map RJ.row).flatten ++ spare) 78)] ++ ([] ++ [(b, cl [.int .i64 4] 3)]))) rfl (Res.tmp rfl) (fun _ h => h.split) ⟨jobs, _, jc, _, gr, shn, [], [4], _, rfl, hO, few, own_one, by simp, ⟨hs0, hs8⟩, keep_self⟩)
    · skip
      by_cases hi : e.index = (x.log.length : Int)
      · skip
        repeat' (first | refine Cd.seq ?_ | refine Cd.reg ?_ | refine Ops.nil ?_ | refine Ops.mv rfl rfl rfl rfl ?_ | refine Ops.asg rfl rfl rfl rfl ?_ | refine Ops.un rfl rfl rfl rfl ?_ | refine Cd.condF rfl rfl ?_ | refine Cd.skip (Cd.next ?_))
        refine Cd.draw [(0, 0, []), (1, 0, []), (2, 0, []), (3, 1, []), (4, 0, []), (5, 1, []), (6, 0, []), (7, 0, []), (8, 0, []), (9, 1, []), (10, 0, [])] (by kernel_rfl) (by kernel_rfl) (by simp only [picked, nth]; exact rfl) ?_
        repeat' (first | refine Cd.seq ?_ | refine Cd.reg ?_ | refine Ops.nil ?_ | refine Ops.mv rfl rfl rfl rfl ?_ | refine Ops.asg rfl rfl rfl rfl ?_ | refine Ops.nilP rfl rfl rfl rfl ?_ | refine Ops.fa0 rfl rfl rfl rfl ?_ | refine Ops.fa rfl rfl rfl rfl ?_ | refine Ops.ld1 rfl rfl rfl rfl rfl ?_ | refine Ops.subI rfl rfl rfl rfl (by omega) (by omega) rfl ?_ | refine Ops.ixa0 rfl rfl rfl rfl (by omega) (by omega) rfl ?_ | refine Ops.ldRow1 rfl rfl rfl (by assumption) (by assumption) rfl rfl ?_)
        refine Ops.callB (rchunks_spec B0 bd ea ec em (.slice (some ⟨g, 0, none⟩) jobs.length jc) (.int .i64 gr) v3 v4 v5 v6 v7 (.int .i64 shn) e.badge e.index e.ta e.tc e.texts hV hem hS hi0 hi1 (by omega)) hB rfl (noPd rfl) rfl rfl rfl (fun v A' hR => ?_)
        obtain ⟨⟨pc, rfl⟩, rfl⟩ := hR
        repeat' (first | refine Cd.seq ?_ | refine Ops.asg rfl rfl rfl rfl ?_)
        refine Cd.draw [(0, 0, []), (1, 0, []), (2, 0, []), (3, 1, []), (4, 0, []), (5, 1, []), (6, 0, []), (8, 0, []), (10, 0, []), (11, 1, []), (7, 2, [3, 5, 11]), (9, 2, [3, 5, 11]), (12, 2, [3, 5]), (13, 0, []), (14, 0, []), (15, 2, [])] (by kernel_rfl) (by kernel_rfl) (by simp only [picked, nth]; exact rfl) ?_
        repeat' (first | refine Ops.mv rfl rfl rfl rfl ?_ | refine Ops.nilP rfl rfl rfl rfl ?_ | refine Ops.fa0 rfl rfl rfl rfl ?_ | refine Ops.ld1 rfl rfl rfl rfl rfl ?_ | refine Ops.subI rfl rfl rfl rfl (by omega) (by omega) rfl ?_ | refine Ops.bs0 rfl rfl rfl (by first | exact noPd rfl | (intro v A' hR i hi; obtain ⟨b, rfl, rfl⟩ := hR; (repeat (rcases List.mem_cons.1 hi with rfl | hi; · (first | exact Still.ld1 rfl rfl rfl rfl rfl | exact Still.ldN rfl rfl rfl rfl | exact Still.len rfl rfl rfl rfl rfl | exact Still.skip rfl rfl rfl | exact Still.ldRow1 rfl rfl rfl (by assumption) (by assumption) rfl rfl | exact Still.ldR rfl rfl rfl (by apply_assumption) rfl))); cases hi)) (fun b => ?_))
        refine Ops.appS (rows := []) (news := x.log.map srow) Own.empty ((hxS.ext hB).reads x.lc _) (by rw [hml, List.length_nil]; omega) (by rw [hml, List.length_nil]; omega) rfl rfl rfl rfl rfl (by first | exact noPd rfl | (intro v A' hR i hi; obtain ⟨G2, hR, rfl⟩ := hR; (repeat (rcases List.mem_cons.1 hi with rfl | hi; · (first | exact Still.ld1 rfl rfl rfl rfl rfl | exact Still.ldN rfl rfl rfl rfl | exact Still.len rfl rfl rfl rfl rfl | exact Still.skip rfl rfl rfl | exact Still.ldRow1 rfl rfl rfl (by assumption) (by assumption) rfl rfl | exact Still.ldR rfl rfl rfl (by apply_assumption) rfl))); cases hi)) rfl (fun v G1 hG1 => ?_)
        obtain ⟨a1, c1, rfl⟩ := hG1.form
        rw [List.nil_append] at hG1 ⊢
        skip
        refine Ops.appS (rows := x.log.map srow) (news := e.texts.map srow) hG1 ((hS.ext hB).reads e.tc _) (by rw [hml, hmt]; omega) (by rw [hml, hmt]; omega) rfl rfl rfl rfl rfl (by first | exact noPd rfl | (intro v A' hR i hi; obtain ⟨G2, hR, rfl⟩ := hR; (repeat (rcases List.mem_cons.1 hi with rfl | hi; · (first | exact Still.ld1 rfl rfl rfl rfl rfl | exact Still.ldN rfl rfl rfl rfl | exact Still.len rfl rfl rfl rfl rfl | exact Still.skip rfl rfl rfl | exact Still.ldRow1 rfl rfl rfl (by assumption) (by assumption) rfl rfl | exact Still.ldR rfl rfl rfl (by apply_assumption) rfl))); cases hi)) rfl (fun v G2 hG => ?_)
        have hG2 : OwnT v (x.log ++ e.texts) G2 := by
          unfold OwnT; rw [List.map_append]; exact hG
        clear hG
        obtain ⟨a2, c2, rfl⟩ := hG2.form
        repeat' (first | refine Ops.fa rfl rfl rfl rfl ?_ | refine Ops.ixa0 rfl rfl rfl rfl (by omega) (by omega) rfl ?_)
        refine Ops.stRow1 rfl rfl rfl rfl rfl hok hrow rfl (noPd rfl) ?_
        repeat' (first | refine Cd.seq ?_ | refine Cd.reg ?_ | refine Ops.nil ?_ | refine Ops.mv rfl rfl rfl rfl ?_ | refine Ops.fa0 rfl rfl rfl rfl ?_ | refine Ops.ld1 rfl rfl rfl rfl rfl ?_ | refine Ops.lenS rfl rfl rfl rfl ?_ | refine Ops.bin rfl rfl rfl rfl rfl ?_ | refine Ops.un rfl rfl rfl rfl ?_ | refine Ops.pickF rfl rfl rfl rfl rfl ?_ | refine Ops.bs0 rfl rfl rfl (noPd rfl) (fun b => ?_) | ((fail_if_success refine Ops.probe rfl ?_); refine Ops.gF rfl rfl (by first | rfl | assumption | (simp only [decide_eq_true_eq, decide_eq_false_iff_not, Bool.not_eq_true', Bool.not_eq_false', Bool.not_eq_eq_eq_not, Bool.not_true, Bool.not_false, beq_iff_eq, beq_eq_false_iff_ne, ne_eq, decide_eq_decide, eq_self, true_iff, iff_true, not_true_eq_false, not_false_eq_true]; first | done | omega)) ?_))
        refine Ops.call (rule_spec _ [] _ 5 _ Own.empty (by have hz : ([] : List Int).length = 0 := rfl; omega)) rfl (noPd rfl) rfl rfl rfl (fun v X1 hR => ?_)
        obtain ⟨ys1, hO1, hy1⟩ := hR
        obtain ⟨a1, c1, rfl⟩ := OwnI.form hO1
        repeat' (first | refine Ops.nil ?_ | refine Ops.asg rfl rfl rfl rfl ?_)
        exact Cd.ret (ret1 (A' := BKv bd (.slice (some ⟨g, 0, none⟩) jobs.length jc) (.int .i64 gr) (.slice ea em.length ec) v3 v4 v5 v6 v7 (.int .i64 shn) :: ([(g, cl (((jobs.map RJ.row).set (e.job - 1).toNat (x.row.set 4 (.slice a2 (x.log ++ e.texts).length c2))).flatten ++ spare) 78)] ++ (G2 ++ X1))) rfl (Res.tmp rfl) (fun _ h => h.split)
          ⟨jobs.set (e.job - 1).toNat { x with log := x.log ++ e.texts, la := a2, lc := c2 }, _, jc, _, gr, shn, G2, ys1, X1, by rw [List.length_set] <;> rfl, own_setR hO hsp hle _ rfl, by rw [List.length_set]; exact few, hO1, by have hz : ([] : List Int).length = 0 := rfl; omega, ⟨hs0, hs8⟩, keep_set (.inr (.inr ⟨by show (x.log ++ e.texts).length ≤ _; rw [List.length_append]; omega, hG2⟩))⟩)

      · skip
        repeat' (first | refine Cd.seq ?_ | refine Cd.reg ?_ | refine Ops.nil ?_ | refine Ops.mv rfl rfl rfl rfl ?_ | refine Ops.asg rfl rfl rfl rfl ?_ | refine Ops.un rfl rfl rfl rfl ?_ | refine Cd.condF rfl rfl ?_ | refine Cd.skip (Cd.next ?_))
        refine Cd.draw [(0, 0, []), (1, 0, []), (2, 0, []), (3, 1, []), (4, 0, []), (5, 1, []), (6, 0, []), (7, 0, []), (8, 0, []), (9, 1, []), (10, 0, [])] (by kernel_rfl) (by kernel_rfl) (by simp only [picked, nth]; exact rfl) ?_
        repeat' (first | refine Cd.seq ?_ | refine Cd.reg ?_ | refine Ops.nil ?_ | refine Ops.mv rfl rfl rfl rfl ?_ | refine Ops.asg rfl rfl rfl rfl ?_ | refine Ops.nilP rfl rfl rfl rfl ?_ | refine Ops.fa0 rfl rfl rfl rfl ?_ | refine Ops.fa rfl rfl rfl rfl ?_ | refine Ops.ld1 rfl rfl rfl rfl rfl ?_ | refine Ops.subI rfl rfl rfl rfl (by omega) (by omega) rfl ?_ | refine Ops.ixa0 rfl rfl rfl rfl (by omega) (by omega) rfl ?_ | refine Ops.ldRow1 rfl rfl rfl (by assumption) (by assumption) rfl rfl ?_)
        refine Ops.callB (rchunks_spec B0 bd ea ec em (.slice (some ⟨g, 0, none⟩) jobs.length jc) (.int .i64 gr) v3 v4 v5 v6 v7 (.int .i64 shn) e.badge e.index e.ta e.tc e.texts hV hem hS hi0 hi1 (by omega)) hB rfl (noPd rfl) rfl rfl rfl (fun v A' hR => ?_)
        obtain ⟨⟨pc, rfl⟩, rfl⟩ := hR
        repeat' (first | refine Cd.seq ?_ | refine Ops.asg rfl rfl rfl rfl ?_)
        refine Cd.draw [(0, 0, []), (1, 0, []), (2, 0, []), (3, 1, []), (4, 0, []), (5, 1, []), (6, 0, []), (8, 0, []), (10, 0, []), (11, 1, []), (7, 2, [3, 5, 11]), (9, 2, [3, 5, 11]), (12, 2, [3, 5]), (13, 0, []), (14, 0, []), (15, 2, [])] (by kernel_rfl) (by kernel_rfl) (by simp only [picked, nth]; exact rfl) ?_
        repeat' (first | refine Ops.mv rfl rfl rfl rfl ?_ | refine Ops.nilP rfl rfl rfl rfl ?_ | refine Ops.fa0 rfl rfl rfl rfl ?_ | refine Ops.ld1 rfl rfl rfl rfl rfl ?_ | refine Ops.subI rfl rfl rfl rfl (by omega) (by omega) rfl ?_ | refine Ops.bs0 rfl rfl rfl (by first | exact noPd rfl | (intro v A' hR i hi; obtain ⟨b, rfl, rfl⟩ := hR; (repeat (rcases List.mem_cons.1 hi with rfl | hi; · (first | exact Still.ld1 rfl rfl rfl rfl rfl | exact Still.ldN rfl rfl rfl rfl | exact Still.len rfl rfl rfl rfl rfl | exact Still.skip rfl rfl rfl | exact Still.ldRow1 rfl rfl rfl (by assumption) (by assumption) rfl rfl | exact Still.ldR rfl rfl rfl (by apply_assumption) rfl))); cases hi)) (fun b => ?_))
        refine Ops.appS (rows := []) (news := x.log.map srow) Own.empty ((hxS.ext hB).reads x.lc _) (by rw [hml, List.length_nil]; omega) (by rw [hml, List.length_nil]; omega) rfl rfl rfl rfl rfl (by first | exact noPd rfl | (intro v A' hR i hi; obtain ⟨G2, hR, rfl⟩ := hR; (repeat (rcases List.mem_cons.1 hi with rfl | hi; · (first | exact Still.ld1 rfl rfl rfl rfl rfl | exact Still.ldN rfl rfl rfl rfl | exact Still.len rfl rfl rfl rfl rfl | exact Still.skip rfl rfl rfl | exact Still.ldRow1 rfl rfl rfl (by assumption) (by assumption) rfl rfl | exact Still.ldR rfl rfl rfl (by apply_assumption) rfl))); cases hi)) rfl (fun v G1 hG1 => ?_)
        obtain ⟨a1, c1, rfl⟩ := hG1.form
        rw [List.nil_append] at hG1 ⊢
        skip
        refine Ops.appS (rows := x.log.map srow) (news := e.texts.map srow) hG1 ((hS.ext hB).reads e.tc _) (by rw [hml, hmt]; omega) (by rw [hml, hmt]; omega) rfl rfl rfl rfl rfl (by first | exact noPd rfl | (intro v A' hR i hi; obtain ⟨G2, hR, rfl⟩ := hR; (repeat (rcases List.mem_cons.1 hi with rfl | hi; · (first | exact Still.ld1 rfl rfl rfl rfl rfl | exact Still.ldN rfl rfl rfl rfl | exact Still.len rfl rfl rfl rfl rfl | exact Still.skip rfl rfl rfl | exact Still.ldRow1 rfl rfl rfl (by assumption) (by assumption) rfl rfl | exact Still.ldR rfl rfl rfl (by apply_assumption) rfl))); cases hi)) rfl (fun v G2 hG => ?_)
        have hG2 : OwnT v (x.log ++ e.texts) G2 := by
          unfold OwnT; rw [List.map_append]; exact hG
        clear hG
        obtain ⟨a2, c2, rfl⟩ := hG2.form
        repeat' (first | refine Ops.fa rfl rfl rfl rfl ?_ | refine Ops.ixa0 rfl rfl rfl rfl (by omega) (by omega) rfl ?_)
        refine Ops.stRow1 rfl rfl rfl rfl rfl hok hrow rfl (noPd rfl) ?_
        repeat' (first | refine Cd.seq ?_ | refine Cd.reg ?_ | refine Ops.nil ?_ | refine Ops.mv rfl rfl rfl rfl ?_ | refine Ops.fa0 rfl rfl rfl rfl ?_ | refine Ops.ld1 rfl rfl rfl rfl rfl ?_ | refine Ops.lenS rfl rfl rfl rfl ?_ | refine Ops.bin rfl rfl rfl rfl rfl ?_ | refine Ops.pickT rfl rfl rfl rfl rfl ?_ | refine Ops.bs0 rfl rfl rfl (noPd rfl) (fun b => ?_) | refine Ops.gSkip rfl rfl rfl ?_ | ((fail_if_success refine Ops.probe rfl ?_); refine Ops.gT rfl rfl (by first | rfl | assumption | (simp only [decide_eq_true_eq, decide_eq_false_iff_not, Bool.not_eq_true', Bool.not_eq_false', Bool.not_eq_eq_eq_not, Bool.not_true, Bool.not_false, beq_iff_eq, beq_eq_false_iff_ne, ne_eq, decide_eq_decide, eq_self, true_iff, iff_true, not_true_eq_false, not_false_eq_true]; first | done | omega)) ?_))
        refine Ops.call (rule_spec _ [] _ 5 _ Own.empty (by have hz : ([] : List Int).length = 0 := rfl; omega)) rfl (noPd rfl) rfl rfl rfl (fun v X1 hR => ?_)
        obtain ⟨ys1, hO1, hy1⟩ := hR
        obtain ⟨a1, c1, rfl⟩ := OwnI.form hO1
        repeat' (first | refine Ops.nil ?_ | refine Ops.asg rfl rfl rfl rfl ?_)
        exact Cd.ret (ret1 (A' := BKv bd (.slice (some ⟨g, 0, none⟩) jobs.length jc) (.int .i64 gr) (.slice ea em.length ec) v3 v4 v5 v6 v7 (.int .i64 shn) :: ([(g, cl (((jobs.map RJ.row).set (e.job - 1).toNat (x.row.set 4 (.slice a2 (x.log ++ e.texts).length c2))).flatten ++ spare) 78)] ++ (G2 ++ X1))) rfl (Res.tmp rfl) (fun _ h => h.split)
          ⟨jobs.set (e.job - 1).toNat { x with log := x.log ++ e.texts, la := a2, lc := c2 }, _, jc, _, gr, shn, G2, ys1, X1, by rw [List.length_set] <;> rfl, own_setR hO hsp hle _ rfl, by rw [List.length_set]; exact few, hO1, by have hz : ([] : List Int).length = 0 := rfl; omega, ⟨hs0, hs8⟩, keep_set (.inr (.inr ⟨by show (x.log ++ e.texts).length ≤ _; rw [List.length_append]; omega, hG2⟩))⟩)
  · skip
    refine ConB.intro (vs := [_, _]) Try.func37 rfl Try.ntmps37 rfl (fun B hB => ?_)
    repeat' (first | refine Cd.seq ?_ | refine Cd.reg ?_ | refine Ops.mv rfl rfl rfl rfl ?_ | refine Ops.asg rfl rfl rfl rfl ?_ | refine Ops.fa0 rfl rfl rfl rfl ?_ | refine Ops.ld1 rfl rfl rfl rfl rfl ?_ | refine Ops.box rfl rfl rfl rfl (noPd rfl) (fun b => ?_))
    refine Ops.call (rheldC bd ja jc jobs JG (.int .i64 gr) (.slice ea em.length ec) v3 v4 v5 v6 v7 (.int .i64 shn) e.job e.badge hO (by omega)) rfl (noPd rfl) rfl rfl rfl (fun v A' hR => ?_)
    obtain ⟨⟨hc, rfl, hh⟩, rfl⟩ := hR
    cases hc
    · skip
      repeat' (first | refine Cd.seq ?_ | refine Cd.reg ?_ | refine Ops.nil ?_ | refine Ops.mv rfl rfl rfl rfl ?_ | refine Ops.asg rfl rfl rfl rfl ?_ | refine Ops.un rfl rfl rfl rfl ?_ | refine Ops.bs1 rfl rfl rfl rfl rfl rfl rfl (noPd rfl) (fun b => ?_) | refine Cd.condT rfl rfl ?_)
      exact Cd.ret (ret1 (A' := BKv bd (.slice ja jobs.length jc) (.int .i64 gr) (.slice ea em.length ec) v3 v4 v5 v6 v7 (.int .i64 shn) :: (JG ++ ([] ++ [(b, cl [.int .i64 4] 3)]))) rfl (Res.tmp rfl) (fun _ h => h.split) ⟨jobs, _, jc, _, gr, shn, [], [4], _, rfl, hO, few, own_one, by simp, ⟨hs0, hs8⟩, keep_self⟩)
    · exact absurd (hh rfl) hk

theorem rrecorded_spec (B0 : Base) (bd : Nat) (ja : Option Addr) (jc : Nat) (jobs : List RJ) (JG : List Blk) (gr shn : Int) (na : Option Addr) (nc : Nat) (en : List Ev) (v2 v3 v5 v6 v7 : Value) (tot : Nat) (e : Ev) (hO : OwnR (.slice ja jobs.length jc) jobs JG) (few : jobs.length ≤ 8) (hs0 : 0 ≤ shn) (hs8 : shn ≤ 8) (hV : VIn B0 na en) (hen : en.length ≤ 2000000) (hL : ∀ x ∈ jobs, x.log.length ≤ 2000000) :
    ConB Try.prog B0 39 #[ptr bd, .agg e.row.toArray] (BKv bd (.slice ja jobs.length jc) (.int .i64 gr) v2 v3 (.slice na en.length nc) v5 v6 v7 (.int .i64 shn) :: JG) (JAct bd v2 v3 (.slice na en.length nc) v5 v6 v7 jobs tot) := by
  by_cases hk : 1 ≤ e.job ∧ e.job ≤ jobs.length
  · skip
    obtain ⟨x, hx⟩ : ∃ x, jobs[(e.job - 1).toNat]? = some x := ⟨_, List.getElem?_eq_getElem (by omega)⟩
    have hlt := (List.getElem?_eq_some_iff.1 hx).1
    obtain ⟨g, spare, rfl, _, rfl, hsp, hle⟩ := hO.some_ (by omega)
    have hok := rj_ok jobs
    have hrow : (jobs.map RJ.row)[(e.job - 1).toNat]? = some x.row := by rw [List.getElem?_map, hx]; rfl
    have hxl := hL x (List.mem_of_getElem? hx)
    refine ConB.intro (vs := [_, _]) Try.func39 rfl Try.ntmps39 rfl (fun B hB => ?_)
    repeat' (first | refine Cd.seq ?_ | refine Cd.reg ?_ | refine Ops.asg rfl rfl rfl rfl ?_ | refine Ops.box rfl rfl rfl rfl (noPd rfl) (fun b => ?_) | refine Ops.bs0 rfl rfl rfl (noPd rfl) (fun b => ?_))
    refine Cd.draw [(0, 0, []), (1, 0, []), (2, 1, []), (3, 0, []), (4, 1, []), (6, 0, []), (7, 0, []), (8, 1, []), (5, 2, [8]), (9, 2, []), (10, 0, []), (11, 0, [])] (by kernel_rfl) (by kernel_rfl) (by simp only [picked, nth]; exact rfl) ?_
    repeat' (first | refine Ops.mv rfl rfl rfl rfl ?_ | refine Ops.fa0 rfl rfl rfl rfl ?_ | refine Ops.ld1 rfl rfl rfl rfl rfl ?_)
    refine Ops.call (rheldC bd (some ⟨g, 0, none⟩) jc jobs [(g, cl ((jobs.map RJ.row).flatten ++ spare) 78)] (.int .i64 gr) v2 v3 (.slice na en.length nc) v5 v6 v7 (.int .i64 shn) e.job e.badge hO (by omega)) rfl (by intro v A' hR i hi; obtain ⟨A2, ⟨_, rfl⟩, rfl⟩ := hR; (repeat (rcases List.mem_cons.1 hi with rfl | hi; · (first | exact Still.ld1 rfl rfl rfl rfl rfl | exact Still.ldN rfl rfl rfl rfl | exact Still.len rfl rfl rfl rfl rfl | exact Still.skip rfl rfl rfl | exact Still.ldRow1 rfl rfl rfl (by assumption) (by assumption) rfl rfl | exact Still.ldR rfl rfl rfl (by apply_assumption) rfl))); cases hi) rfl rfl rfl (fun v A' hR => ?_)
    obtain ⟨⟨hc, rfl, hh⟩, rfl⟩ := hR
    skip
    refine Ops.call (roverC bd (some ⟨g, 0, none⟩) jc jobs [(g, cl ((jobs.map RJ.row).flatten ++ spare) 78)] (.int .i64 gr) v2 v3 (.slice na en.length nc) v5 v6 v7 (.int .i64 shn) e.job hO (by omega)) rfl (noPd rfl) rfl rfl rfl (fun v A' hR => ?_)
    obtain ⟨⟨oc, rfl⟩, rfl⟩ := hR
    cases hc
    · cases oc
      · skip
        repeat' (first | refine Cd.seq ?_ | refine Cd.reg ?_ | refine Ops.nil ?_ | refine Ops.mv rfl rfl rfl rfl ?_ | refine Ops.asg rfl rfl rfl rfl ?_)
        refine Ops.call (rule_spec _ [] _ 1 _ Own.empty (by have hz : ([] : List Int).length = 0 := rfl; omega)) rfl (noPd rfl) rfl rfl rfl (fun v X1 hR => ?_)
        obtain ⟨ys1, hO1, hy1⟩ := hR
        obtain ⟨a1, c1, rfl⟩ := OwnI.form hO1
        repeat' (first | refine Cd.seq ?_ | refine Cd.reg ?_ | refine Ops.mv rfl rfl rfl rfl ?_ | refine Ops.asg rfl rfl rfl rfl ?_ | refine Ops.un rfl rfl rfl rfl ?_ | refine Ops.pickT rfl rfl rfl rfl rfl ?_)
        refine Ops.call (rule_spec _ ys1 X1 4 _ hO1 (by have hz : ([] : List Int).length = 0 := rfl; omega)) rfl (noPd rfl) rfl rfl rfl (fun v X2 hR => ?_)
        obtain ⟨ys2, hO2, hy2⟩ := hR
        obtain ⟨a2, c2, rfl⟩ := OwnI.form hO2
        repeat' (first | refine Cd.seq ?_ | refine Cd.reg ?_ | refine Ops.mv rfl rfl rfl rfl ?_ | refine Ops.asg rfl rfl rfl rfl ?_ | refine Ops.fa0 rfl rfl rfl rfl ?_ | refine Ops.ld1 rfl rfl rfl rfl rfl ?_)
        refine Ops.call (rknown_spec bd (some ⟨g, 0, none⟩) jobs.length jc (.int .i64 gr) v2 v3 (.slice na en.length nc) v5 v6 v7 (.int .i64 shn) e.job) rfl (noPd rfl) rfl rfl rfl (fun v A' hR => ?_)
        obtain ⟨rfl, rfl⟩ := hR
        rw [decide_eq_true hk]
        repeat' (first | refine Ops.nil ?_ | refine Cd.condT rfl rfl ?_)
        refine Cd.draw [(0, 0, []), (1, 0, []), (2, 0, []), (3, 1, []), (4, 0, []), (5, 1, []), (6, 0, []), (7, 0, []), (8, 0, []), (9, 1, []), (10, 1, []), (11, 0, [])] (by kernel_rfl) (by kernel_rfl) (by simp only [picked, nth]; exact rfl) ?_
        repeat' (first | refine Cd.seq ?_ | refine Cd.reg ?_ | refine Ops.nil ?_ | refine Ops.mv rfl rfl rfl rfl ?_ | refine Ops.asg rfl rfl rfl rfl ?_ | refine Ops.nilP rfl rfl rfl rfl ?_ | refine Ops.fa0 rfl rfl rfl rfl ?_ | refine Ops.fa rfl rfl rfl rfl ?_ | refine Ops.ld1 rfl rfl rfl rfl rfl ?_ | refine Ops.ldN rfl rfl rfl rfl ?_ | refine Ops.lenS rfl rfl rfl rfl ?_ | refine Ops.subI rfl rfl rfl rfl (by omega) (by omega) rfl ?_ | refine Ops.ixa0 rfl rfl rfl rfl (by omega) (by omega) rfl ?_ | refine Ops.ldRow1 rfl rfl rfl (by assumption) (by assumption) rfl rfl ?_)
        refine Ops.callB (rends_spec B0 bd na nc en (.slice (some ⟨g, 0, none⟩) jobs.length jc) (.int .i64 gr) v2 v3 v5 v6 v7 (.int .i64 shn) e.job e.badge e.rcode e.rbits x.log.length hV hen) hB rfl (noPd rfl) rfl rfl rfl (fun v A' hR => ?_)
        obtain ⟨⟨rc, wc, rfl⟩, rfl⟩ := hR
        repeat' (first | refine Cd.seq ?_ | refine Cd.reg ?_ | refine Ops.mv rfl rfl rfl rfl ?_ | refine Ops.asg rfl rfl rfl rfl ?_ | refine Ops.un rfl rfl rfl rfl ?_ | refine Ops.ext rfl rfl rfl rfl rfl ?_)
        refine Ops.call (rule_spec _ ys2 X2 2 _ hO2 (by have hz : ([] : List Int).length = 0 := rfl; omega)) rfl (noPd rfl) rfl rfl rfl (fun v X3 hR => ?_)
        obtain ⟨ys3, hO3, hy3⟩ := hR
        obtain ⟨a3, c3, rfl⟩ := OwnI.form hO3
        repeat' (first | refine Cd.seq ?_ | refine Cd.reg ?_ | refine Ops.mv rfl rfl rfl rfl ?_ | refine Ops.asg rfl rfl rfl rfl ?_ | refine Ops.bin rfl rfl rfl rfl rfl ?_ | refine Ops.un rfl rfl rfl rfl ?_ | refine Ops.pickT rfl rfl rfl rfl rfl ?_)
        refine Ops.call (rule_spec _ ys3 X3 6 _ hO3 (by have hz : ([] : List Int).length = 0 := rfl; omega)) rfl (noPd rfl) rfl rfl rfl (fun v X4 hR => ?_)
        obtain ⟨ys4, hO4, hy4⟩ := hR
        obtain ⟨a4, c4, rfl⟩ := OwnI.form hO4
        repeat' (first | refine Cd.seq ?_ | refine Cd.reg ?_ | refine Ops.nil ?_ | refine Ops.mv rfl rfl rfl rfl ?_ | refine Ops.asg rfl rfl rfl rfl ?_ | refine Cd.condF rfl rfl ?_ | refine Cd.skip (Cd.next ?_))
        exact Cd.ret (ret1 (A' := BKv bd (.slice (some ⟨g, 0, none⟩) jobs.length jc) (.int .i64 gr) v2 v3 (.slice na en.length nc) v5 v6 v7 (.int .i64 shn) :: ([(g, cl ((jobs.map RJ.row).flatten ++ spare) 78)] ++ ([] ++ X4))) rfl (Res.tmp rfl) (fun _ h => h.split) ⟨jobs, _, jc, _, gr, shn, [], ys4, X4, rfl, hO, few, hO4, by have hz : ([] : List Int).length = 0 := rfl; omega, ⟨hs0, hs8⟩, keep_self⟩)
      · skip
        repeat' (first | refine Cd.seq ?_ | refine Cd.reg ?_ | refine Ops.nil ?_ | refine Ops.mv rfl rfl rfl rfl ?_ | refine Ops.asg rfl rfl rfl rfl ?_)
        refine Ops.call (rule_spec _ [] _ 1 _ Own.empty (by have hz : ([] : List Int).length = 0 := rfl; omega)) rfl (noPd rfl) rfl rfl rfl (fun v X1 hR => ?_)
        obtain ⟨ys1, hO1, hy1⟩ := hR
        obtain ⟨a1, c1, rfl⟩ := OwnI.form hO1
        repeat' (first | refine Cd.seq ?_ | refine Cd.reg ?_ | refine Ops.mv rfl rfl rfl rfl ?_ | refine Ops.asg rfl rfl rfl rfl ?_ | refine Ops.un rfl rfl rfl rfl ?_ | refine Ops.pickF rfl rfl rfl rfl rfl ?_ | refine Ops.gSkip rfl rfl rfl ?_)
        refine Ops.call (rule_spec _ ys1 X1 4 _ hO1 (by have hz : ([] : List Int).length = 0 := rfl; omega)) rfl (noPd rfl) rfl rfl rfl (fun v X2 hR => ?_)
        obtain ⟨ys2, hO2, hy2⟩ := hR
        obtain ⟨a2, c2, rfl⟩ := OwnI.form hO2
        repeat' (first | refine Cd.seq ?_ | refine Cd.reg ?_ | refine Ops.mv rfl rfl rfl rfl ?_ | refine Ops.asg rfl rfl rfl rfl ?_ | refine Ops.fa0 rfl rfl rfl rfl ?_ | refine Ops.ld1 rfl rfl rfl rfl rfl ?_)
        refine Ops.call (rknown_spec bd (some ⟨g, 0, none⟩) jobs.length jc (.int .i64 gr) v2 v3 (.slice na en.length nc) v5 v6 v7 (.int .i64 shn) e.job) rfl (noPd rfl) rfl rfl rfl (fun v A' hR => ?_)
        obtain ⟨rfl, rfl⟩ := hR
        rw [decide_eq_true hk]
        repeat' (first | refine Ops.nil ?_ | refine Cd.condT rfl rfl ?_)
        refine Cd.draw [(0, 0, []), (1, 0, []), (2, 0, []), (3, 1, []), (4, 0, []), (5, 1, []), (6, 0, []), (7, 0, []), (8, 0, []), (9, 1, []), (10, 1, []), (11, 0, [])] (by kernel_rfl) (by kernel_rfl) (by simp only [picked, nth]; exact rfl) ?_
        repeat' (first | refine Cd.seq ?_ | refine Cd.reg ?_ | refine Ops.nil ?_ | refine Ops.mv rfl rfl rfl rfl ?_ | refine Ops.asg rfl rfl rfl rfl ?_ | refine Ops.nilP rfl rfl rfl rfl ?_ | refine Ops.fa0 rfl rfl rfl rfl ?_ | refine Ops.fa rfl rfl rfl rfl ?_ | refine Ops.ld1 rfl rfl rfl rfl rfl ?_ | refine Ops.ldN rfl rfl rfl rfl ?_ | refine Ops.lenS rfl rfl rfl rfl ?_ | refine Ops.subI rfl rfl rfl rfl (by omega) (by omega) rfl ?_ | refine Ops.ixa0 rfl rfl rfl rfl (by omega) (by omega) rfl ?_ | refine Ops.ldRow1 rfl rfl rfl (by assumption) (by assumption) rfl rfl ?_)
        refine Ops.callB (rends_spec B0 bd na nc en (.slice (some ⟨g, 0, none⟩) jobs.length jc) (.int .i64 gr) v2 v3 v5 v6 v7 (.int .i64 shn) e.job e.badge e.rcode e.rbits x.log.length hV hen) hB rfl (noPd rfl) rfl rfl rfl (fun v A' hR => ?_)
        obtain ⟨⟨rc, wc, rfl⟩, rfl⟩ := hR
        repeat' (first | refine Cd.seq ?_ | refine Cd.reg ?_ | refine Ops.mv rfl rfl rfl rfl ?_ | refine Ops.asg rfl rfl rfl rfl ?_ | refine Ops.un rfl rfl rfl rfl ?_ | refine Ops.ext rfl rfl rfl rfl rfl ?_)
        refine Ops.call (rule_spec _ ys2 X2 2 _ hO2 (by have hz : ([] : List Int).length = 0 := rfl; omega)) rfl (noPd rfl) rfl rfl rfl (fun v X3 hR => ?_)
        obtain ⟨ys3, hO3, hy3⟩ := hR
        obtain ⟨a3, c3, rfl⟩ := OwnI.form hO3
        repeat' (first | refine Cd.seq ?_ | refine Cd.reg ?_ | refine Ops.mv rfl rfl rfl rfl ?_ | refine Ops.asg rfl rfl rfl rfl ?_ | refine Ops.bin rfl rfl rfl rfl rfl ?_ | refine Ops.un rfl rfl rfl rfl ?_ | refine Ops.pickT rfl rfl rfl rfl rfl ?_)
        refine Ops.call (rule_spec _ ys3 X3 6 _ hO3 (by have hz : ([] : List Int).length = 0 := rfl; omega)) rfl (noPd rfl) rfl rfl rfl (fun v X4 hR => ?_)
        obtain ⟨ys4, hO4, hy4⟩ := hR
        obtain ⟨a4, c4, rfl⟩ := OwnI.form hO4
        repeat' (first | refine Cd.seq ?_ | refine Cd.reg ?_ | refine Ops.nil ?_ | refine Ops.mv rfl rfl rfl rfl ?_ | refine Ops.asg rfl rfl rfl rfl ?_ | refine Cd.condF rfl rfl ?_ | refine Cd.skip (Cd.next ?_))
        exact Cd.ret (ret1 (A' := BKv bd (.slice (some ⟨g, 0, none⟩) jobs.length jc) (.int .i64 gr) v2 v3 (.slice na en.length nc) v5 v6 v7 (.int .i64 shn) :: ([(g, cl ((jobs.map RJ.row).flatten ++ spare) 78)] ++ ([] ++ X4))) rfl (Res.tmp rfl) (fun _ h => h.split) ⟨jobs, _, jc, _, gr, shn, [], ys4, X4, rfl, hO, few, hO4, by have hz : ([] : List Int).length = 0 := rfl; omega, ⟨hs0, hs8⟩, keep_self⟩)
    · cases oc
      · skip
        repeat' (first | refine Cd.seq ?_ | refine Cd.reg ?_ | refine Ops.nil ?_ | refine Ops.mv rfl rfl rfl rfl ?_ | refine Ops.asg rfl rfl rfl rfl ?_)
        refine Ops.call (rule_spec _ [] _ 1 _ Own.empty (by have hz : ([] : List Int).length = 0 := rfl; omega)) rfl (noPd rfl) rfl rfl rfl (fun v X1 hR => ?_)
        obtain ⟨ys1, hO1, hy1⟩ := hR
        obtain ⟨a1, c1, rfl⟩ := OwnI.form hO1
        repeat' (first | refine Cd.seq ?_ | refine Cd.reg ?_ | refine Ops.mv rfl rfl rfl rfl ?_ | refine Ops.asg rfl rfl rfl rfl ?_ | refine Ops.un rfl rfl rfl rfl ?_ | refine Ops.pickT rfl rfl rfl rfl rfl ?_)
        refine Ops.call (rule_spec _ ys1 X1 4 _ hO1 (by have hz : ([] : List Int).length = 0 := rfl; omega)) rfl (noPd rfl) rfl rfl rfl (fun v X2 hR => ?_)
        obtain ⟨ys2, hO2, hy2⟩ := hR
        obtain ⟨a2, c2, rfl⟩ := OwnI.form hO2
        repeat' (first | refine Cd.seq ?_ | refine Cd.reg ?_ | refine Ops.mv rfl rfl rfl rfl ?_ | refine Ops.asg rfl rfl rfl rfl ?_ | refine Ops.fa0 rfl rfl rfl rfl ?_ | refine Ops.ld1 rfl rfl rfl rfl rfl ?_)
        refine Ops.call (rknown_spec bd (some ⟨g, 0, none⟩) jobs.length jc (.int .i64 gr) v2 v3 (.slice na en.length nc) v5 v6 v7 (.int .i64 shn) e.job) rfl (noPd rfl) rfl rfl rfl (fun v A' hR => ?_)
        obtain ⟨rfl, rfl⟩ := hR
        rw [decide_eq_true hk]
        repeat' (first | refine Ops.nil ?_ | refine Cd.condT rfl rfl ?_)
        refine Cd.draw [(0, 0, []), (1, 0, []), (2, 0, []), (3, 1, []), (4, 0, []), (5, 1, []), (6, 0, []), (7, 0, []), (8, 0, []), (9, 1, []), (10, 1, []), (11, 0, [])] (by kernel_rfl) (by kernel_rfl) (by simp only [picked, nth]; exact rfl) ?_
        repeat' (first | refine Cd.seq ?_ | refine Cd.reg ?_ | refine Ops.nil ?_ | refine Ops.mv rfl rfl rfl rfl ?_ | refine Ops.asg rfl rfl rfl rfl ?_ | refine Ops.nilP rfl rfl rfl rfl ?_ | refine Ops.fa0 rfl rfl rfl rfl ?_ | refine Ops.fa rfl rfl rfl rfl ?_ | refine Ops.ld1 rfl rfl rfl rfl rfl ?_ | refine Ops.ldN rfl rfl rfl rfl ?_ | refine Ops.lenS rfl rfl rfl rfl ?_ | refine Ops.subI rfl rfl rfl rfl (by omega) (by omega) rfl ?_ | refine Ops.ixa0 rfl rfl rfl rfl (by omega) (by omega) rfl ?_ | refine Ops.ldRow1 rfl rfl rfl (by assumption) (by assumption) rfl rfl ?_)
        refine Ops.callB (rends_spec B0 bd na nc en (.slice (some ⟨g, 0, none⟩) jobs.length jc) (.int .i64 gr) v2 v3 v5 v6 v7 (.int .i64 shn) e.job e.badge e.rcode e.rbits x.log.length hV hen) hB rfl (noPd rfl) rfl rfl rfl (fun v A' hR => ?_)
        obtain ⟨⟨rc, wc, rfl⟩, rfl⟩ := hR
        repeat' (first | refine Cd.seq ?_ | refine Cd.reg ?_ | refine Ops.mv rfl rfl rfl rfl ?_ | refine Ops.asg rfl rfl rfl rfl ?_ | refine Ops.un rfl rfl rfl rfl ?_ | refine Ops.ext rfl rfl rfl rfl rfl ?_)
        refine Ops.call (rule_spec _ ys2 X2 2 _ hO2 (by have hz : ([] : List Int).length = 0 := rfl; omega)) rfl (noPd rfl) rfl rfl rfl (fun v X3 hR => ?_)
        obtain ⟨ys3, hO3, hy3⟩ := hR
        obtain ⟨a3, c3, rfl⟩ := OwnI.form hO3
        repeat' (first | refine Cd.seq ?_ | refine Cd.reg ?_ | refine Ops.mv rfl rfl rfl rfl ?_ | refine Ops.asg rfl rfl rfl rfl ?_ | refine Ops.bin rfl rfl rfl rfl rfl ?_ | refine Ops.un rfl rfl rfl rfl ?_ | refine Ops.pickT rfl rfl rfl rfl rfl ?_)
        refine Ops.call (rule_spec _ ys3 X3 6 _ hO3 (by have hz : ([] : List Int).length = 0 := rfl; omega)) rfl (noPd rfl) rfl rfl rfl (fun v X4 hR => ?_)
        obtain ⟨ys4, hO4, hy4⟩ := hR
        obtain ⟨a4, c4, rfl⟩ := OwnI.form hO4
        repeat' (first | refine Cd.seq ?_ | refine Cd.reg ?_ | refine Ops.nil ?_ | refine Ops.mv rfl rfl rfl rfl ?_ | refine Ops.asg rfl rfl rfl rfl ?_ | refine Cd.condT rfl rfl ?_)
        refine Cd.draw [(0, 0, []), (1, 0, []), (2, 0, []), (3, 1, []), (4, 0, []), (5, 1, []), (6, 0, []), (7, 0, []), (8, 0, []), (9, 2, [])] (by kernel_rfl) (by kernel_rfl) (by simp only [picked, nth]; exact rfl) ?_
        repeat' (first | refine Ops.mv rfl rfl rfl rfl ?_ | refine Ops.nilP rfl rfl rfl rfl ?_ | refine Ops.fa0 rfl rfl rfl rfl ?_ | refine Ops.fa rfl rfl rfl rfl ?_ | refine Ops.ld1 rfl rfl rfl rfl rfl ?_ | refine Ops.subI rfl rfl rfl rfl (by omega) (by omega) rfl ?_ | refine Ops.ixa0 rfl rfl rfl rfl (by omega) (by omega) rfl ?_)
        refine Ops.stRow1 rfl rfl rfl rfl rfl hok hrow rfl (noPd rfl) ?_
        repeat' (first | refine Ops.nil ?_)
        refine Cd.draw [(0, 0, []), (1, 0, []), (2, 0, []), (3, 1, []), (4, 0, []), (5, 1, []), (6, 0, []), (7, 0, []), (8, 1, []), (9, 0, []), (10, 0, []), (11, 2, [])] (by kernel_rfl) (by kernel_rfl) (by simp only [picked, nth]; exact rfl) ?_
        repeat' (first | refine Ops.mv rfl rfl rfl rfl ?_ | refine Ops.nilP rfl rfl rfl rfl ?_ | refine Ops.fa0 rfl rfl rfl rfl ?_ | refine Ops.fa rfl rfl rfl rfl ?_ | refine Ops.ld1 rfl rfl rfl rfl rfl ?_ | refine Ops.ldN rfl rfl rfl rfl ?_ | refine Ops.subI rfl rfl rfl rfl (by omega) (by omega) rfl ?_ | refine Ops.ixa0 rfl rfl rfl rfl (by omega) (by omega) rfl ?_)
        refine Ops.stRowN rfl rfl rfl rfl rfl rfl (hok.set rfl rfl) (show ((jobs.map RJ.row).set (e.job - 1).toNat (x.row.set 0 (.int .i64 3)))[(e.job - 1).toNat]? = some [.int .i64 3, .int .i64 x.bd, .int .i64 x.rc, .int .u64 x.rb, .slice x.la x.log.length x.lc] from List.getElem?_set_self (by rw [List.length_map]; exact hlt)) (noPd rfl) ?_
        rw [List.set_set]
        repeat' (first | refine Cd.seq ?_ | refine Cd.reg ?_ | refine Ops.nil ?_ | refine Ops.mv rfl rfl rfl rfl ?_ | refine Ops.asg rfl rfl rfl rfl ?_)
        exact Cd.ret (ret1 (A' := BKv bd (.slice (some ⟨g, 0, none⟩) jobs.length jc) (.int .i64 gr) v2 v3 (.slice na en.length nc) v5 v6 v7 (.int .i64 shn) :: ([(g, cl (((jobs.map RJ.row).set (e.job - 1).toNat [.int .i64 3, .int .i64 x.bd, .int .i64 e.rcode, .int .u64 e.rbits, .slice x.la x.log.length x.lc]).flatten ++ spare) 78)] ++ ([] ++ X4))) rfl (Res.tmp rfl) (fun _ h => h.split)
          ⟨jobs.set (e.job - 1).toNat { x with st := 3, rc := e.rcode, rb := e.rbits }, _, jc, _, gr, shn, [], ys4, X4, by rw [List.length_set] <;> rfl, own_setR hO hsp hle _ rfl, by rw [List.length_set]; exact few, hO4, by have hz : ([] : List Int).length = 0 := rfl; omega, ⟨hs0, hs8⟩, keep_set (.inl ⟨x, List.mem_of_getElem? hx, rfl, rfl, rfl⟩)⟩)
      · skip
        repeat' (first | refine Cd.seq ?_ | refine Cd.reg ?_ | refine Ops.nil ?_ | refine Ops.mv rfl rfl rfl rfl ?_ | refine Ops.asg rfl rfl rfl rfl ?_)
        refine Ops.call (rule_spec _ [] _ 1 _ Own.empty (by have hz : ([] : List Int).length = 0 := rfl; omega)) rfl (noPd rfl) rfl rfl rfl (fun v X1 hR => ?_)
        obtain ⟨ys1, hO1, hy1⟩ := hR
        obtain ⟨a1, c1, rfl⟩ := OwnI.form hO1
        repeat' (first | refine Cd.seq ?_ | refine Cd.reg ?_ | refine Ops.mv rfl rfl rfl rfl ?_ | refine Ops.asg rfl rfl rfl rfl ?_ | refine Ops.un rfl rfl rfl rfl ?_ | refine Ops.pickF rfl rfl rfl rfl rfl ?_ | refine Ops.gSkip rfl rfl rfl ?_)
        refine Ops.call (rule_spec _ ys1 X1 4 _ hO1 (by have hz : ([] : List Int).length = 0 := rfl; omega)) rfl (noPd rfl) rfl rfl rfl (fun v X2 hR => ?_)
        obtain ⟨ys2, hO2, hy2⟩ := hR
        obtain ⟨a2, c2, rfl⟩ := OwnI.form hO2
        repeat' (first | refine Cd.seq ?_ | refine Cd.reg ?_ | refine Ops.mv rfl rfl rfl rfl ?_ | refine Ops.asg rfl rfl rfl rfl ?_ | refine Ops.fa0 rfl rfl rfl rfl ?_ | refine Ops.ld1 rfl rfl rfl rfl rfl ?_)
        refine Ops.call (rknown_spec bd (some ⟨g, 0, none⟩) jobs.length jc (.int .i64 gr) v2 v3 (.slice na en.length nc) v5 v6 v7 (.int .i64 shn) e.job) rfl (noPd rfl) rfl rfl rfl (fun v A' hR => ?_)
        obtain ⟨rfl, rfl⟩ := hR
        rw [decide_eq_true hk]
        repeat' (first | refine Ops.nil ?_ | refine Cd.condT rfl rfl ?_)
        refine Cd.draw [(0, 0, []), (1, 0, []), (2, 0, []), (3, 1, []), (4, 0, []), (5, 1, []), (6, 0, []), (7, 0, []), (8, 0, []), (9, 1, []), (10, 1, []), (11, 0, [])] (by kernel_rfl) (by kernel_rfl) (by simp only [picked, nth]; exact rfl) ?_
        repeat' (first | refine Cd.seq ?_ | refine Cd.reg ?_ | refine Ops.nil ?_ | refine Ops.mv rfl rfl rfl rfl ?_ | refine Ops.asg rfl rfl rfl rfl ?_ | refine Ops.nilP rfl rfl rfl rfl ?_ | refine Ops.fa0 rfl rfl rfl rfl ?_ | refine Ops.fa rfl rfl rfl rfl ?_ | refine Ops.ld1 rfl rfl rfl rfl rfl ?_ | refine Ops.ldN rfl rfl rfl rfl ?_ | refine Ops.lenS rfl rfl rfl rfl ?_ | refine Ops.subI rfl rfl rfl rfl (by omega) (by omega) rfl ?_ | refine Ops.ixa0 rfl rfl rfl rfl (by omega) (by omega) rfl ?_ | refine Ops.ldRow1 rfl rfl rfl (by assumption) (by assumption) rfl rfl ?_)
        refine Ops.callB (rends_spec B0 bd na nc en (.slice (some ⟨g, 0, none⟩) jobs.length jc) (.int .i64 gr) v2 v3 v5 v6 v7 (.int .i64 shn) e.job e.badge e.rcode e.rbits x.log.length hV hen) hB rfl (noPd rfl) rfl rfl rfl (fun v A' hR => ?_)
        obtain ⟨⟨rc, wc, rfl⟩, rfl⟩ := hR
        repeat' (first | refine Cd.seq ?_ | refine Cd.reg ?_ | refine Ops.mv rfl rfl rfl rfl ?_ | refine Ops.asg rfl rfl rfl rfl ?_ | refine Ops.un rfl rfl rfl rfl ?_ | refine Ops.ext rfl rfl rfl rfl rfl ?_)
        refine Ops.call (rule_spec _ ys2 X2 2 _ hO2 (by have hz : ([] : List Int).length = 0 := rfl; omega)) rfl (noPd rfl) rfl rfl rfl (fun v X3 hR => ?_)
        obtain ⟨ys3, hO3, hy3⟩ := hR
        obtain ⟨a3, c3, rfl⟩ := OwnI.form hO3
        repeat' (first | refine Cd.seq ?_ | refine Cd.reg ?_ | refine Ops.mv rfl rfl rfl rfl ?_ | refine Ops.asg rfl rfl rfl rfl ?_ | refine Ops.bin rfl rfl rfl rfl rfl ?_ | refine Ops.un rfl rfl rfl rfl ?_ | refine Ops.pickT rfl rfl rfl rfl rfl ?_)
        refine Ops.call (rule_spec _ ys3 X3 6 _ hO3 (by have hz : ([] : List Int).length = 0 := rfl; omega)) rfl (noPd rfl) rfl rfl rfl (fun v X4 hR => ?_)
        obtain ⟨ys4, hO4, hy4⟩ := hR
        obtain ⟨a4, c4, rfl⟩ := OwnI.form hO4
        repeat' (first | refine Cd.seq ?_ | refine Cd.reg ?_ | refine Ops.nil ?_ | refine Ops.mv rfl rfl rfl rfl ?_ | refine Ops.asg rfl rfl rfl rfl ?_ | refine Cd.condT rfl rfl ?_)
        refine Cd.draw [(0, 0, []), (1, 0, []), (2, 0, []), (3, 1, []), (4, 0, []), (5, 1, []), (6, 0, []), (7, 0, []), (8, 0, []), (9, 2, [])] (by kernel_rfl) (by kernel_rfl) (by simp only [picked, nth]; exact rfl) ?_
        repeat' (first | refine Ops.mv rfl rfl rfl rfl ?_ | refine Ops.nilP rfl rfl rfl rfl ?_ | refine Ops.fa0 rfl rfl rfl rfl ?_ | refine Ops.fa rfl rfl rfl rfl ?_ | refine Ops.ld1 rfl rfl rfl rfl rfl ?_ | refine Ops.subI rfl rfl rfl rfl (by omega) (by omega) rfl ?_ | refine Ops.ixa0 rfl rfl rfl rfl (by omega) (by omega) rfl ?_)
        refine Ops.stRow1 rfl rfl rfl rfl rfl hok hrow rfl (noPd rfl) ?_
        repeat' (first | refine Ops.nil ?_)
        refine Cd.draw [(0, 0, []), (1, 0, []), (2, 0, []), (3, 1, []), (4, 0, []), (5, 1, []), (6, 0, []), (7, 0, []), (8, 1, []), (9, 0, []), (10, 0, []), (11, 2, [])] (by kernel_rfl) (by kernel_rfl) (by simp only [picked, nth]; exact rfl) ?_
        repeat' (first | refine Ops.mv rfl rfl rfl rfl ?_ | refine Ops.nilP rfl rfl rfl rfl ?_ | refine Ops.fa0 rfl rfl rfl rfl ?_ | refine Ops.fa rfl rfl rfl rfl ?_ | refine Ops.ld1 rfl rfl rfl rfl rfl ?_ | refine Ops.ldN rfl rfl rfl rfl ?_ | refine Ops.subI rfl rfl rfl rfl (by omega) (by omega) rfl ?_ | refine Ops.ixa0 rfl rfl rfl rfl (by omega) (by omega) rfl ?_)
        refine Ops.stRowN rfl rfl rfl rfl rfl rfl (hok.set rfl rfl) (show ((jobs.map RJ.row).set (e.job - 1).toNat (x.row.set 0 (.int .i64 3)))[(e.job - 1).toNat]? = some [.int .i64 3, .int .i64 x.bd, .int .i64 x.rc, .int .u64 x.rb, .slice x.la x.log.length x.lc] from List.getElem?_set_self (by rw [List.length_map]; exact hlt)) (noPd rfl) ?_
        rw [List.set_set]
        repeat' (first | refine Cd.seq ?_ | refine Cd.reg ?_ | refine Ops.nil ?_ | refine Ops.mv rfl rfl rfl rfl ?_ | refine Ops.asg rfl rfl rfl rfl ?_)
        exact Cd.ret (ret1 (A' := BKv bd (.slice (some ⟨g, 0, none⟩) jobs.length jc) (.int .i64 gr) v2 v3 (.slice na en.length nc) v5 v6 v7 (.int .i64 shn) :: ([(g, cl (((jobs.map RJ.row).set (e.job - 1).toNat [.int .i64 3, .int .i64 x.bd, .int .i64 e.rcode, .int .u64 e.rbits, .slice x.la x.log.length x.lc]).flatten ++ spare) 78)] ++ ([] ++ X4))) rfl (Res.tmp rfl) (fun _ h => h.split)
          ⟨jobs.set (e.job - 1).toNat { x with st := 3, rc := e.rcode, rb := e.rbits }, _, jc, _, gr, shn, [], ys4, X4, by rw [List.length_set] <;> rfl, own_setR hO hsp hle _ rfl, by rw [List.length_set]; exact few, hO4, by have hz : ([] : List Int).length = 0 := rfl; omega, ⟨hs0, hs8⟩, keep_set (.inl ⟨x, List.mem_of_getElem? hx, rfl, rfl, rfl⟩)⟩)
  · skip
    refine ConB.intro (vs := [_, _]) Try.func39 rfl Try.ntmps39 rfl (fun B hB => ?_)
    repeat' (first | refine Cd.seq ?_ | refine Cd.reg ?_ | refine Ops.asg rfl rfl rfl rfl ?_ | refine Ops.box rfl rfl rfl rfl (noPd rfl) (fun b => ?_) | refine Ops.bs0 rfl rfl rfl (noPd rfl) (fun b => ?_))
    refine Cd.draw [(0, 0, []), (1, 0, []), (2, 1, []), (3, 0, []), (4, 1, []), (6, 0, []), (7, 0, []), (8, 1, []), (5, 2, [8]), (9, 2, []), (10, 0, []), (11, 0, [])] (by kernel_rfl) (by kernel_rfl) (by simp only [picked, nth]; exact rfl) ?_
    repeat' (first | refine Ops.mv rfl rfl rfl rfl ?_ | refine Ops.fa0 rfl rfl rfl rfl ?_ | refine Ops.ld1 rfl rfl rfl rfl rfl ?_)
    refine Ops.call (rheldC bd ja jc jobs JG (.int .i64 gr) v2 v3 (.slice na en.length nc) v5 v6 v7 (.int .i64 shn) e.job e.badge hO (by omega)) rfl (by intro v A' hR i hi; obtain ⟨A2, ⟨_, rfl⟩, rfl⟩ := hR; (repeat (rcases List.mem_cons.1 hi with rfl | hi; · (first | exact Still.ld1 rfl rfl rfl rfl rfl | exact Still.ldN rfl rfl rfl rfl | exact Still.len rfl rfl rfl rfl rfl | exact Still.skip rfl rfl rfl | exact Still.ldRow1 rfl rfl rfl (by assumption) (by assumption) rfl rfl | exact Still.ldR rfl rfl rfl (by apply_assumption) rfl))); cases hi) rfl rfl rfl (fun v A' hR => ?_)
    obtain ⟨⟨hc, rfl, hh⟩, rfl⟩ := hR
    skip
    refine Ops.call (roverC bd ja jc jobs JG (.int .i64 gr) v2 v3 (.slice na en.length nc) v5 v6 v7 (.int .i64 shn) e.job hO (by omega)) rfl (noPd rfl) rfl rfl rfl (fun v A' hR => ?_)
    obtain ⟨⟨oc, rfl⟩, rfl⟩ := hR
    cases hc
    · cases oc
      · skip
        repeat' (first | refine Cd.seq ?_ | refine Cd.reg ?_ | refine Ops.nil ?_ | refine Ops.mv rfl rfl rfl rfl ?_ | refine Ops.asg rfl rfl rfl rfl ?_)
        refine Ops.call (rule_spec _ [] _ 1 _ Own.empty (by have hz : ([] : List Int).length = 0 := rfl; omega)) rfl (noPd rfl) rfl rfl rfl (fun v X1 hR => ?_)
        obtain ⟨ys1, hO1, hy1⟩ := hR
        obtain ⟨a1, c1, rfl⟩ := OwnI.form hO1
        repeat' (first | refine Cd.seq ?_ | refine Cd.reg ?_ | refine Ops.mv rfl rfl rfl rfl ?_ | refine Ops.asg rfl rfl rfl rfl ?_ | refine Ops.un rfl rfl rfl rfl ?_ | refine Ops.pickT rfl rfl rfl rfl rfl ?_)
        refine Ops.call (rule_spec _ ys1 X1 4 _ hO1 (by have hz : ([] : List Int).length = 0 := rfl; omega)) rfl (noPd rfl) rfl rfl rfl (fun v X2 hR => ?_)
        obtain ⟨ys2, hO2, hy2⟩ := hR
        obtain ⟨a2, c2, rfl⟩ := OwnI.form hO2
        repeat' (first | refine Cd.seq ?_ | refine Cd.reg ?_ | refine Ops.mv rfl rfl rfl rfl ?_ | refine Ops.asg rfl rfl rfl rfl ?_ | refine Ops.fa0 rfl rfl rfl rfl ?_ | refine Ops.ld1 rfl rfl rfl rfl rfl ?_)
        refine Ops.call (rknown_spec bd ja jobs.length jc (.int .i64 gr) v2 v3 (.slice na en.length nc) v5 v6 v7 (.int .i64 shn) e.job) rfl (noPd rfl) rfl rfl rfl (fun v A' hR => ?_)
        obtain ⟨rfl, rfl⟩ := hR
        rw [decide_eq_false hk]
        repeat' (first | refine Cd.seq ?_ | refine Cd.reg ?_ | refine Ops.nil ?_ | refine Ops.mv rfl rfl rfl rfl ?_ | refine Ops.fa0 rfl rfl rfl rfl ?_ | refine Ops.ld1 rfl rfl rfl rfl rfl ?_ | refine Ops.ldN rfl rfl rfl rfl ?_ | refine Cd.condF rfl rfl ?_ | refine Cd.skip (Cd.next ?_))
        refine Ops.callB (rends_spec B0 bd na nc en (.slice ja jobs.length jc) (.int .i64 gr) v2 v3 v5 v6 v7 (.int .i64 shn) e.job e.badge e.rcode e.rbits (-1) hV hen) hB rfl (noPd rfl) rfl rfl rfl (fun v A' hR => ?_)
        obtain ⟨⟨rc, wc, rfl⟩, rfl⟩ := hR
        repeat' (first | refine Cd.seq ?_ | refine Cd.reg ?_ | refine Ops.mv rfl rfl rfl rfl ?_ | refine Ops.asg rfl rfl rfl rfl ?_ | refine Ops.un rfl rfl rfl rfl ?_ | refine Ops.ext rfl rfl rfl rfl rfl ?_)
        refine Ops.call (rule_spec _ ys2 X2 2 _ hO2 (by have hz : ([] : List Int).length = 0 := rfl; omega)) rfl (noPd rfl) rfl rfl rfl (fun v X3 hR => ?_)
        obtain ⟨ys3, hO3, hy3⟩ := hR
        obtain ⟨a3, c3, rfl⟩ := OwnI.form hO3
        repeat' (first | refine Cd.seq ?_ | refine Cd.reg ?_ | refine Ops.mv rfl rfl rfl rfl ?_ | refine Ops.asg rfl rfl rfl rfl ?_ | refine Ops.bin rfl rfl rfl rfl rfl ?_ | refine Ops.pickF rfl rfl rfl rfl rfl ?_ | refine Ops.gSkip rfl rfl rfl ?_)
        refine Ops.call (rule_spec _ ys3 X3 6 _ hO3 (by have hz : ([] : List Int).length = 0 := rfl; omega)) rfl (noPd rfl) rfl rfl rfl (fun v X4 hR => ?_)
        obtain ⟨ys4, hO4, hy4⟩ := hR
        obtain ⟨a4, c4, rfl⟩ := OwnI.form hO4
        repeat' (first | refine Cd.seq ?_ | refine Cd.reg ?_ | refine Ops.nil ?_ | refine Ops.mv rfl rfl rfl rfl ?_ | refine Ops.asg rfl rfl rfl rfl ?_ | refine Cd.condF rfl rfl ?_ | refine Cd.skip (Cd.next ?_))
        exact Cd.ret (ret1 (A' := BKv bd (.slice ja jobs.length jc) (.int .i64 gr) v2 v3 (.slice na en.length nc) v5 v6 v7 (.int .i64 shn) :: (JG ++ ([] ++ X4))) rfl (Res.tmp rfl) (fun _ h => h.split) ⟨jobs, _, jc, _, gr, shn, [], ys4, X4, rfl, hO, few, hO4, by have hz : ([] : List Int).length = 0 := rfl; omega, ⟨hs0, hs8⟩, keep_self⟩)
      · skip
        repeat' (first | refine Cd.seq ?_ | refine Cd.reg ?_ | refine Ops.nil ?_ | refine Ops.mv rfl rfl rfl rfl ?_ | refine Ops.asg rfl rfl rfl rfl ?_)
        refine Ops.call (rule_spec _ [] _ 1 _ Own.empty (by have hz : ([] : List Int).length = 0 := rfl; omega)) rfl (noPd rfl) rfl rfl rfl (fun v X1 hR => ?_)
        obtain ⟨ys1, hO1, hy1⟩ := hR
        obtain ⟨a1, c1, rfl⟩ := OwnI.form hO1
        repeat' (first | refine Cd.seq ?_ | refine Cd.reg ?_ | refine Ops.mv rfl rfl rfl rfl ?_ | refine Ops.asg rfl rfl rfl rfl ?_ | refine Ops.un rfl rfl rfl rfl ?_ | refine Ops.pickF rfl rfl rfl rfl rfl ?_ | refine Ops.gSkip rfl rfl rfl ?_)
        refine Ops.call (rule_spec _ ys1 X1 4 _ hO1 (by have hz : ([] : List Int).length = 0 := rfl; omega)) rfl (noPd rfl) rfl rfl rfl (fun v X2 hR => ?_)
        obtain ⟨ys2, hO2, hy2⟩ := hR
        obtain ⟨a2, c2, rfl⟩ := OwnI.form hO2
        repeat' (first | refine Cd.seq ?_ | refine Cd.reg ?_ | refine Ops.mv rfl rfl rfl rfl ?_ | refine Ops.asg rfl rfl rfl rfl ?_ | refine Ops.fa0 rfl rfl rfl rfl ?_ | refine Ops.ld1 rfl rfl rfl rfl rfl ?_)
        refine Ops.call (rknown_spec bd ja jobs.length jc (.int .i64 gr) v2 v3 (.slice na en.length nc) v5 v6 v7 (.int .i64 shn) e.job) rfl (noPd rfl) rfl rfl rfl (fun v A' hR => ?_)
        obtain ⟨rfl, rfl⟩ := hR
        rw [decide_eq_false hk]
        repeat' (first | refine Cd.seq ?_ | refine Cd.reg ?_ | refine Ops.nil ?_ | refine Ops.mv rfl rfl rfl rfl ?_ | refine Ops.fa0 rfl rfl rfl rfl ?_ | refine Ops.ld1 rfl rfl rfl rfl rfl ?_ | refine Ops.ldN rfl rfl rfl rfl ?_ | refine Cd.condF rfl rfl ?_ | refine Cd.skip (Cd.next ?_))
        refine Ops.callB (rends_spec B0 bd na nc en (.slice ja jobs.length jc) (.int .i64 gr) v2 v3 v5 v6 v7 (.int .i64 shn) e.job e.badge e.rcode e.rbits (-1) hV hen) hB rfl (noPd rfl) rfl rfl rfl (fun v A' hR => ?_)
        obtain ⟨⟨rc, wc, rfl⟩, rfl⟩ := hR
        repeat' (first | refine Cd.seq ?_ | refine Cd.reg ?_ | refine Ops.mv rfl rfl rfl rfl ?_ | refine Ops.asg rfl rfl rfl rfl ?_ | refine Ops.un rfl rfl rfl rfl ?_ | refine Ops.ext rfl rfl rfl rfl rfl ?_)
        refine Ops.call (rule_spec _ ys2 X2 2 _ hO2 (by have hz : ([] : List Int).length = 0 := rfl; omega)) rfl (noPd rfl) rfl rfl rfl (fun v X3 hR => ?_)
        obtain ⟨ys3, hO3, hy3⟩ := hR
        obtain ⟨a3, c3, rfl⟩ := OwnI.form hO3
        repeat' (first | refine Cd.seq ?_ | refine Cd.reg ?_ | refine Ops.mv rfl rfl rfl rfl ?_ | refine Ops.asg rfl rfl rfl rfl ?_ | refine Ops.bin rfl rfl rfl rfl rfl ?_ | refine Ops.pickF rfl rfl rfl rfl rfl ?_ | refine Ops.gSkip rfl rfl rfl ?_)
        refine Ops.call (rule_spec _ ys3 X3 6 _ hO3 (by have hz : ([] : List Int).length = 0 := rfl; omega)) rfl (noPd rfl) rfl rfl rfl (fun v X4 hR => ?_)
        obtain ⟨ys4, hO4, hy4⟩ := hR
        obtain ⟨a4, c4, rfl⟩ := OwnI.form hO4
        repeat' (first | refine Cd.seq ?_ | refine Cd.reg ?_ | refine Ops.nil ?_ | refine Ops.mv rfl rfl rfl rfl ?_ | refine Ops.asg rfl rfl rfl rfl ?_ | refine Cd.condF rfl rfl ?_ | refine Cd.skip (Cd.next ?_))
        exact Cd.ret (ret1 (A' := BKv bd (.slice ja jobs.length jc) (.int .i64 gr) v2 v3 (.slice na en.length nc) v5 v6 v7 (.int .i64 shn) :: (JG ++ ([] ++ X4))) rfl (Res.tmp rfl) (fun _ h => h.split) ⟨jobs, _, jc, _, gr, shn, [], ys4, X4, rfl, hO, few, hO4, by have hz : ([] : List Int).length = 0 := rfl; omega, ⟨hs0, hs8⟩, keep_self⟩)
    · exact absurd (hh rfl) hk

@[reducible] def IBk (g : Nat) (xs : List Int) : Blk := (g, cl ((xs.map irow).flatten ++ []) 3)
@[reducible] def BKa (bd : Nat) (v0 v1 v2 : Value) (wa : Option Addr) (wn wc : Nat) (v4 : Value) (bg pg : Nat) (v7 v8 : Value) : Blk := BKv bd v0 v1 v2 (.slice wa wn wc) v4 (.slice (some ⟨bg, 0, none⟩) 9 9) (.slice (some ⟨pg, 0, none⟩) 9 9) v7 v8
theorem radmitted_spec (B0 : Base) (bd bg pg : Nat) (wa : Option Addr) (wc : Nat) (wr : List Ev) (v0 v1 v2 v4 v7 v8 : Value) (e : Ev) (bs ps : List Int) (hV : VIn B0 wa wr) (hwr : wr.length ≤ 2000000) (hbs : bs.length = 9) (hps : ps.length = 9) (hj1 : 1 ≤ e.job) (hj8 : e.job ≤ 8) (hi0 : 0 ≤ e.index) (hi1 : e.index ≤ 1099511627776) :
    ConB Try.prog B0 40 #[ptr bd, .agg e.row.toArray] [BKa bd v0 v1 v2 wa wr.length wc v4 bg pg v7 v8, IBk bg bs, IBk pg ps] fun v A => ∃ bs' ps' ys XG, A = BKa bd v0 v1 v2 wa wr.length wc v4 bg pg v7 v8 :: IBk bg bs' :: IBk pg ps' :: XG ∧ bs'.length = 9 ∧ ps'.length = 9 ∧ OwnI v ys XG ∧ ys.length ≤ 8 := by
  have hokb := irows_ok bs
  have hokp := irows_ok ps
  obtain ⟨xb, hxb⟩ : ∃ x, bs[e.job.toNat]? = some x := ⟨_, List.getElem?_eq_getElem (by omega)⟩
  obtain ⟨xp, hxp⟩ : ∃ x, ps[e.job.toNat]? = some x := ⟨_, List.getElem?_eq_getElem (by omega)⟩
  have hrb : (bs.map irow)[e.job.toNat]? = some [.int .i64 xb] := by rw [List.getElem?_map, hxb]; rfl
  have hrp : (ps.map irow)[e.job.toNat]? = some [.int .i64 xp] := by rw [List.getElem?_map, hxp]; rfl
  have hlb : e.job.toNat < (bs.map irow).length := by rw [List.length_map]; omega
  have hlp : e.job.toNat < (ps.map irow).length := by rw [List.length_map]; omega
  have hmb : ∀ v, (bs.map irow).set e.job.toNat [.int .i64 v] = (bs.set e.job.toNat v).map irow := fun v => by rw [List.map_set]
  have hmp : ∀ v, (ps.map irow).set e.job.toNat [.int .i64 v] = (ps.set e.job.toNat v).map irow := fun v => by rw [List.map_set]
  refine ConB.intro (vs := [_, _]) Try.func40 rfl Try.ntmps40 rfl (fun B hB => ?_)
  generalize hc3 : Code.seq (Code.region 3 _ _) _ = c3
  repeat' (first | refine Cd.seq ?_ | refine Cd.reg ?_ | refine Ops.asg rfl rfl rfl rfl ?_ | refine Ops.box rfl rfl rfl rfl (noPd rfl) (fun b => ?_))
  refine Cd.draw [(0, 0, []), (1, 0, []), (2, 0, []), (3, 1, []), (4, 0, []), (5, 1, []), (6, 0, []), (7, 1, []), (8, 2, []), (9, 0, []), (10, 0, []), (11, 0, []), (12, 0, []), (13, 0, [])] (by kernel_rfl) (by kernel_rfl) (by simp only [picked, nth]; exact rfl) ?_
  repeat' (first | refine Ops.mv rfl rfl rfl rfl ?_ | refine Ops.nilP rfl rfl rfl rfl ?_ | refine Ops.fa0 rfl rfl rfl rfl ?_ | refine Ops.ld1 rfl rfl rfl rfl rfl ?_)
  refine Ops.callB (rtext_spec B0 wa wc wr e.badge e.index hV hwr) hB rfl (noPd rfl) rfl rfl rfl (fun v A' hR => ?_)
  obtain ⟨⟨s, th, rfl⟩, rfl⟩ := hR
  repeat' (first | refine Cd.seq ?_ | refine Ops.nil ?_ | refine Ops.mv rfl rfl rfl rfl ?_ | refine Ops.asg rfl rfl rfl rfl ?_ | refine Ops.ext rfl rfl rfl rfl rfl ?_)
  refine Cd.draw [(0, 0, []), (1, 0, []), (2, 0, []), (3, 1, []), (4, 0, []), (5, 1, []), (6, 0, []), (7, 1, []), (8, 0, []), (9, 0, []), (10, 0, []), (11, 1, []), (12, 0, []), (13, 1, []), (14, 0, []), (15, 1, []), (16, 0, []), (17, 0, [])] (by kernel_rfl) (by kernel_rfl) (by simp only [picked, nth]; exact rfl) ?_
  repeat' (first | refine Ops.nil ?_ | refine Ops.mv rfl rfl rfl rfl ?_ | refine Ops.asg rfl rfl rfl rfl ?_ | refine Ops.nilP rfl rfl rfl rfl ?_ | refine Ops.fa0 rfl rfl rfl rfl ?_ | refine Ops.ld1 rfl rfl rfl rfl rfl ?_ | refine Ops.ixa0 rfl rfl rfl rfl (by omega) (by omega) rfl ?_ | refine Ops.ldCell rfl rfl rfl (by assumption) (by assumption) rfl ?_)
  subst hc3
  rename Nat => be
  refine Cd.cut (σ := Bool) (fun _ => True) (fun c => [(0, ptr bd), (3, ptr be), (7, .int .i64 xb), (9, .bool c)]) (fun _ => [(be, cl e.row 39), BKa bd v0 v1 v2 wa wr.length wc v4 bg pg v7 v8, IBk bg bs, IBk pg ps]) ?_ (fun c _ => ?_)
  · cases th
    · repeat' (first | refine Cd.reg ?_ | refine Ops.mv rfl rfl rfl rfl ?_ | refine Ops.asg rfl rfl rfl rfl ?_ | refine Ops.fa0 rfl rfl rfl rfl ?_ | refine Ops.ld1 rfl rfl rfl rfl rfl ?_ | refine Ops.bin rfl rfl rfl rfl rfl ?_ | refine Ops.un rfl rfl rfl rfl ?_ | refine Ops.pickT rfl rfl rfl rfl rfl ?_ | refine Ops.pickF rfl rfl rfl rfl rfl ?_ | refine Ops.gSkip rfl rfl rfl ?_ | refine Ops.gSkipU rfl rfl rfl rfl ?_ | ((fail_if_success refine Ops.probe rfl ?_); refine Ops.gT rfl rfl (by first | rfl | assumption | (simp only [decide_eq_true_eq, decide_eq_false_iff_not, Bool.not_eq_true', Bool.not_eq_false', Bool.not_eq_eq_eq_not, Bool.not_true, Bool.not_false, beq_iff_eq, beq_eq_false_iff_ne, ne_eq, decide_eq_decide, eq_self, true_iff, iff_true, not_true_eq_false, not_false_eq_true]; first | done | omega)) ?_) | ((fail_if_success refine Ops.probe rfl ?_); refine Ops.gF rfl rfl (by first | rfl | assumption | (simp only [decide_eq_true_eq, decide_eq_false_iff_not, Bool.not_eq_true', Bool.not_eq_false', Bool.not_eq_eq_eq_not, Bool.not_true, Bool.not_false, beq_iff_eq, beq_eq_false_iff_ne, ne_eq, decide_eq_decide, eq_self, true_iff, iff_true, not_true_eq_false, not_false_eq_true]; first | done | omega)) ?_) | ((fail_if_success refine Ops.probe rfl ?_); refine Ops.gSplit rfl rfl (fun hc => ?_) (fun hc => ?_) <;> (try simp only [decide_eq_true_eq, decide_eq_false_iff_not, Bool.not_eq_true', Bool.not_eq_false', Bool.not_eq_eq_eq_not, Bool.not_true, Bool.not_false, Int.not_lt, Int.not_le] at hc)))
      all_goals exact Ops.nilN (meet_end (Q := fun _ _ _ => True) _ trivial ⟨rfl, rfl, rfl, rfl, trivial⟩ (fun w h => h.split))
    · repeat' (first | refine Cd.reg ?_ | refine Ops.mv rfl rfl rfl rfl ?_ | refine Ops.asg rfl rfl rfl rfl ?_ | refine Ops.fa0 rfl rfl rfl rfl ?_ | refine Ops.ld1 rfl rfl rfl rfl rfl ?_ | refine Ops.bin rfl rfl rfl rfl rfl ?_ | refine Ops.un rfl rfl rfl rfl ?_ | refine Ops.pickT rfl rfl rfl rfl rfl ?_ | refine Ops.pickF rfl rfl rfl rfl rfl ?_ | refine Ops.gSkip rfl rfl rfl ?_ | refine Ops.gSkipU rfl rfl rfl rfl ?_ | ((fail_if_success refine Ops.probe rfl ?_); refine Ops.gT rfl rfl (by first | rfl | assumption | (simp only [decide_eq_true_eq, decide_eq_false_iff_not, Bool.not_eq_true', Bool.not_eq_false', Bool.not_eq_eq_eq_not, Bool.not_true, Bool.not_false, beq_iff_eq, beq_eq_false_iff_ne, ne_eq, decide_eq_decide, eq_self, true_iff, iff_true, not_true_eq_false, not_false_eq_true]; first | done | omega)) ?_) | ((fail_if_success refine Ops.probe rfl ?_); refine Ops.gF rfl rfl (by first | rfl | assumption | (simp only [decide_eq_true_eq, decide_eq_false_iff_not, Bool.not_eq_true', Bool.not_eq_false', Bool.not_eq_eq_eq_not, Bool.not_true, Bool.not_false, beq_iff_eq, beq_eq_false_iff_ne, ne_eq, decide_eq_decide, eq_self, true_iff, iff_true, not_true_eq_false, not_false_eq_true]; first | done | omega)) ?_) | ((fail_if_success refine Ops.probe rfl ?_); refine Ops.gSplit rfl rfl (fun hc => ?_) (fun hc => ?_) <;> (try simp only [decide_eq_true_eq, decide_eq_false_iff_not, Bool.not_eq_true', Bool.not_eq_false', Bool.not_eq_eq_eq_not, Bool.not_true, Bool.not_false, Int.not_lt, Int.not_le] at hc)))
      all_goals exact Ops.nilN (meet_end (Q := fun _ _ _ => True) _ trivial ⟨rfl, rfl, rfl, rfl, trivial⟩ (fun w h => h.split))
  · by_cases hge : e.badge < xb
    · repeat' (first | refine Cd.seq ?_ | refine Cd.reg ?_ | refine Ops.nil ?_ | refine Ops.mv rfl rfl rfl rfl ?_ | refine Ops.fa0 rfl rfl rfl rfl ?_ | refine Ops.ld1 rfl rfl rfl rfl rfl ?_ | refine Ops.bin rfl rfl rfl rfl rfl ?_ | refine Ops.bs0 rfl rfl rfl (noPd rfl) (fun b => ?_) | refine Cd.skip (Cd.next ?_) | refine Cd.condF rfl (by first | rfl | assumption | (simp only [decide_eq_true_eq, decide_eq_false_iff_not, Bool.not_eq_true', Bool.not_eq_false', Bool.not_eq_eq_eq_not, Bool.not_true, Bool.not_false, beq_iff_eq, beq_eq_false_iff_ne, ne_eq, decide_eq_decide, eq_self, true_iff, iff_true, not_true_eq_false, not_false_eq_true]; first | done | omega)) ?_)
      refine Ops.call (rule_spec _ [] _ 7 _ Own.empty (by have hz : ([] : List Int).length = 0 := rfl; omega)) rfl (noPd rfl) rfl rfl rfl (fun v X1 hR => ?_)
      obtain ⟨ys1, hO1, hy1⟩ := hR
      obtain ⟨a1, c1, rfl⟩ := OwnI.form hO1
      repeat' (first | refine Ops.nil ?_ | refine Ops.asg rfl rfl rfl rfl ?_)
      exact Cd.ret (ret1 (A' := BKa bd v0 v1 v2 wa wr.length wc v4 bg pg v7 v8 :: IBk bg bs :: IBk pg ps :: X1) rfl (Res.tmp rfl) (fun _ h => h.split) ⟨bs, ps, ys1, X1, rfl, hbs, hps, hO1, by have hz : ([] : List Int).length = 0 := rfl; omega⟩)
    · repeat' (first | refine Cd.seq ?_ | refine Cd.reg ?_ | refine Ops.nil ?_ | refine Ops.mv rfl rfl rfl rfl ?_ | refine Ops.fa0 rfl rfl rfl rfl ?_ | refine Ops.ld1 rfl rfl rfl rfl rfl ?_ | refine Ops.bin rfl rfl rfl rfl rfl ?_ | refine Cd.condT rfl (by first | rfl | assumption | (simp only [decide_eq_true_eq, decide_eq_false_iff_not, Bool.not_eq_true', Bool.not_eq_false', Bool.not_eq_eq_eq_not, Bool.not_true, Bool.not_false, beq_iff_eq, beq_eq_false_iff_ne, ne_eq, decide_eq_decide, eq_self, true_iff, iff_true, not_true_eq_false, not_false_eq_true]; first | done | omega)) ?_)
      refine Cd.draw [(0, 0, []), (1, 0, []), (2, 0, []), (3, 1, []), (4, 0, []), (5, 1, []), (6, 0, []), (7, 1, []), (8, 0, []), (9, 2, [])] (by kernel_rfl) (by kernel_rfl) (by simp only [picked, nth]; exact rfl) ?_
      repeat' (first | refine Ops.mv rfl rfl rfl rfl ?_ | refine Ops.nilP rfl rfl rfl rfl ?_ | refine Ops.fa0 rfl rfl rfl rfl ?_ | refine Ops.ld1 rfl rfl rfl rfl rfl ?_ | refine Ops.ixa0 rfl rfl rfl rfl (by omega) (by omega) rfl ?_)
      refine Ops.stRow rfl rfl rfl rfl rfl rfl hokb hlb (noPd rfl) ?_
      rw [hmb]
      repeat' (first | refine Ops.nil ?_)
      refine Cd.draw [(0, 0, []), (1, 0, []), (2, 0, []), (3, 1, []), (4, 0, []), (5, 1, []), (6, 0, []), (7, 1, []), (8, 0, []), (9, 0, []), (10, 2, [])] (by kernel_rfl) (by kernel_rfl) (by simp only [picked, nth]; exact rfl) ?_
      repeat' (first | refine Ops.mv rfl rfl rfl rfl ?_ | refine Ops.nilP rfl rfl rfl rfl ?_ | refine Ops.fa0 rfl rfl rfl rfl ?_ | refine Ops.ld1 rfl rfl rfl rfl rfl ?_ | refine Ops.addI rfl rfl rfl rfl (by omega) (by omega) rfl ?_ | refine Ops.ixa0 rfl rfl rfl rfl (by omega) (by omega) rfl ?_)
      refine Ops.stRow rfl rfl rfl rfl rfl rfl hokp hlp (noPd rfl) ?_
      rw [hmp]
      repeat' (first | refine Cd.seq ?_ | refine Cd.reg ?_ | refine Ops.nil ?_ | refine Ops.mv rfl rfl rfl rfl ?_ | refine Ops.bs0 rfl rfl rfl (noPd rfl) (fun b => ?_))
      refine Ops.call (rule_spec _ [] _ 7 _ Own.empty (by have hz : ([] : List Int).length = 0 := rfl; omega)) rfl (noPd rfl) rfl rfl rfl (fun v X1 hR => ?_)
      obtain ⟨ys1, hO1, hy1⟩ := hR
      obtain ⟨a1, c1, rfl⟩ := OwnI.form hO1
      repeat' (first | refine Ops.nil ?_ | refine Ops.asg rfl rfl rfl rfl ?_)
      exact Cd.ret (ret1 (A' := BKa bd v0 v1 v2 wa wr.length wc v4 bg pg v7 v8 :: IBk bg (bs.set e.job.toNat e.badge) :: IBk pg (ps.set e.job.toNat (e.index + 1)) :: X1) rfl (Res.tmp rfl) (fun _ h => h.split) ⟨_, _, ys1, X1, rfl, by rw [List.length_set]; exact hbs, by rw [List.length_set]; exact hps, hO1, by have hz : ([] : List Int).length = 0 := rfl; omega⟩)
end Go.Proofs.Ytfghnepmbgbnoaa
