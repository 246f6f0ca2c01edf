import Derived.Test.YtfghnepmbgbnoaaA6
namespace Go.Proofs.Ytfghnepmbgbnoaa
open Go Go.Sep Go.Proofs
set_option maxRecDepth 10000
set_option maxHeartbeats 4000000
set_option synthInstance.maxSize 2000
set_option linter.unusedSimpArgs false
set_option linter.unusedVariables false

theorem pure_held (s : SA) (e : Ev) : heldA s.pure.jobs e = heldA (s.jobs.map JR.j) e := rfl
theorem jobAt_pure (s : SA) (n : Int) : jobAt s.pure.jobs n = (jobAt s.jobs n).map JR.j := jobAt_map
theorem brk_len (n : Int) (b : Bool) : (brk n b).length ≤ 1 := by unfold brk; split <;> simp
theorem held_is {s : SA} {e : Ev} {x : JR} (h1 : jobAt s.jobs e.job = some x) (h2 : x.j.status = 2) (h3 : x.j.badge = e.badge) : heldA s.pure.jobs e = some x.j := by
  unfold heldA; rw [jobAt_pure, h1]; exact if_pos ⟨h2, h3⟩

theorem stored_spec (B0 : Base) (ab k tot : Nat) (s : SA) (e : Ev) (h : s.ok k tot) (hb : s.brok.length ≤ 20) (hS : SIn B0 e.ta e.texts) (h0 : 0 ≤ e.index) (h1 : e.index ≤ 1099511627776) (hbig : tot + e.texts.length ≤ 2000000) :
    ConB Try.prog B0 25 #[ptr ab, .agg e.row.toArray] (AuB ab s) (ActR ab s k (tot + e.texts.length) (storedF s.pure e)) := by
  cases hh : heldA (s.jobs.map JR.j) e with
  | none =>
    rw [show storedF s.pure e = (s.pure, [4]) from by unfold storedF; rw [pure_held, hh]]
    obtain ⟨jobs, ja, jc, JG, r, chunks, pieces, ends, brok, ba, bc, BG⟩ := s
    obtain ⟨oj, ojs, oe, ob, few, s0, s1⟩ := h
    dsimp only [ActR, AuB, SA.pure] at *
    refine ConB.intro (vs := [_, _]) Try.func25 rfl Try.ntmps25 rfl (fun B _ => ?_)
    repeat' (first | refine Cd.seq ?_ | refine Cd.reg ?_ | refine Ops.mv rfl rfl rfl rfl ?_ | refine Ops.ldN rfl rfl rfl rfl ?_ | refine Ops.box rfl rfl rfl rfl (noPd rfl) (fun b => ?_))
    refine Ops.call (held_no ab ja jc r (.slice ba (brok).length bc) jobs JG e oj (by omega) hh) rfl (noPd rfl) rfl rfl rfl (fun v A' hR => ?_)
    obtain ⟨rfl, rfl⟩ := hR
    repeat' (first | refine Cd.seq ?_ | refine Cd.reg ?_ | refine Ops.nil ?_ | refine Ops.mv rfl rfl rfl rfl ?_ | refine Ops.asg rfl rfl rfl rfl ?_ | refine Ops.bin rfl rfl rfl rfl rfl ?_ | refine Cd.condT rfl rfl ?_)
    refine Ops.call (breaks_spec ab ja jobs.length jc r ba bc (brok) BG 4 _ ob (by omega)) rfl (noPd rfl) rfl rfl rfl (fun v A' hR => ?_)
    obtain ⟨ba2, bc2, BG2, rfl, hB2⟩ := hR
    repeat' (first | refine Ops.nil ?_)
    exact Cd.ret (ret0 (A' := AuL ab ja jobs.length jc r (.slice ba2 (brok ++ brk 4 true).length bc2) JG (jobs.flatMap JR.G) chunks pieces (eents ends) (ends.flatMap EN.G) BG2) rfl (fun _ h => h.split)
      ⟨⟨jobs, ja, jc, JG, r, chunks, pieces, ends, _, ba2, bc2, BG2⟩, rfl, SA.ok.mono (⟨oj, ojs, oe, hB2, few, s0, s1⟩ : SA.ok k tot _) (Nat.le_refl _) (Nat.le_add_right _ _), rfl, rfl, rfl, rfl, rfl, rfl⟩)
  | some j0 =>
    obtain ⟨x, hk, rfl, hst, hbd⟩ := heldA_some hh
    rw [show storedF s.pure e = ({ s.pure with jobs := jobSet s.pure.jobs e.job { x.j with log := x.j.log ++ e.texts } }, brk 5 (decide (e.index ≠ x.j.log.length) || !emitB s.chunks e.badge e.index e.texts)) from by unfold storedF; rw [held_is hk hst hbd]; rfl]
    obtain ⟨jobs, ja, jc, JG, r, chunks, pieces, ends, brok, ba, bc, BG⟩ := s
    obtain ⟨oj, ojs, oe, ob, few, s0, s1⟩ := h
    dsimp only [ActR, AuB, SA.pure] at *
    obtain ⟨hr, hx⟩ := jobAt_some hk
    have hlt := (List.getElem?_eq_some_iff.1 hx).1
    obtain ⟨g, spare, rfl, _, rfl, hsp, hle⟩ := oj.some_ (by omega)
    have hok := jr_ok jobs
    have hrow : (jobs.map JR.row)[(e.job - 1).toNat]? = some x.row := by rw [List.getElem?_map, hx]; rfl
    have hp := flat_out (f := JR.G) hx
    refine ConB.permIn (A := AuL ab (some ⟨g, 0, none⟩) jobs.length jc r (.slice ba brok.length bc) [(g, cl ((jobs.map JR.row).flatten ++ spare) 80)] (x.G ++ (jobs.eraseIdx (e.job - 1).toNat).flatMap JR.G) chunks pieces (eents ends) (ends.flatMap EN.G) BG) ?_ (AuL.perm hp)
    by_cases hi : e.index = x.j.log.length
    · have hi' := hi
      refine ConB.intro (vs := [_, _]) Try.func25 rfl Try.ntmps25 rfl (fun B hB => ?_)
      repeat' (first | refine Cd.seq ?_ | refine Cd.reg ?_ | refine Ops.mv rfl rfl rfl rfl ?_ | refine Ops.ldN rfl rfl rfl rfl ?_ | refine Ops.box rfl rfl rfl rfl (noPd rfl) (fun b => ?_))
      refine Ops.call (held_yes ab g jc r (.slice ba (brok).length bc) jobs spare e x (by omega) hk hst hbd) rfl (noPd rfl) rfl rfl rfl (fun v A' hR => ?_)
      obtain ⟨rfl, rfl⟩ := hR
      repeat' (first | refine Cd.seq ?_ | refine Cd.reg ?_ | refine Ops.nil ?_ | refine Ops.mv rfl rfl rfl rfl ?_ | refine Ops.asg rfl rfl rfl rfl ?_ | refine Ops.bin rfl rfl rfl rfl rfl ?_ | refine Cd.condF rfl rfl ?_ | refine Cd.skip (Cd.next ?_))
      refine Cd.draw [(0, 0, []), (1, 0, []), (2, 1, []), (3, 0, []), (4, 0, []), (5, 0, []), (6, 1, []), (7, 1, []), (8, 0, []), (9, 0, []), (10, 0, []), (11, 0, []), (12, 1, []), (13, 0, []), (14, 1, []), (15, 0, []), (16, 1, []), (17, 2, []), (18, 0, []), (19, 0, []), (20, 2, [])] (by kernel_rfl) (by kernel_rfl) (by simp only [picked, nth]; exact rfl) ?_
      repeat' (first | refine Ops.mv rfl rfl rfl rfl ?_ | refine Ops.nilP rfl rfl rfl rfl ?_ | refine Ops.fa0 rfl rfl rfl rfl ?_ | refine Ops.fa rfl rfl rfl rfl ?_ | refine Ops.ld1 rfl rfl rfl rfl rfl ?_ | refine Ops.lenS rfl rfl rfl rfl ?_ | refine Ops.bin rfl rfl rfl rfl rfl ?_ | refine Ops.ldRow1 rfl rfl rfl (by assumption) (by assumption) rfl rfl ?_ | ((fail_if_success refine Ops.probe rfl ?_); refine Ops.gF rfl rfl (by first | rfl | assumption | (simp only [decide_eq_true_eq, decide_eq_false_iff_not, Bool.not_eq_true', Bool.not_eq_false', Bool.not_eq_eq_eq_not, Bool.not_true, Bool.not_false, beq_iff_eq, beq_eq_false_iff_ne, ne_eq, decide_eq_decide, eq_self, true_iff, iff_true, not_true_eq_false, not_false_eq_true]; first | done | omega)) ?_))
      refine Ops.callB (emitted_spec B0 ab (some ⟨g, 0, none⟩) jobs.length jc r (.slice ba brok.length bc) chunks e.badge e.index e.ta e.tc e.texts hS h0 h1 (by omega)) hB rfl (noPd rfl) rfl rfl rfl (fun v A' hR => ?_)
      obtain ⟨rfl, rfl⟩ := hR
      repeat' (first | refine Ops.un rfl rfl rfl rfl ?_ | refine Ops.pickF rfl rfl rfl rfl rfl ?_)
      refine Ops.call (breaks_spec ab (some ⟨g, 0, none⟩) jobs.length jc r ba bc (brok) BG 5 _ ob (by omega)) rfl (noPd rfl) rfl rfl rfl (fun v A' hR => ?_)
      obtain ⟨ba2, bc2, BG2, rfl, hB2⟩ := hR
      repeat' (first | refine Ops.nil ?_)
      refine Cd.draw [(0, 0, []), (1, 0, []), (2, 0, []), (3, 0, []), (4, 1, []), (5, 0, []), (6, 1, []), (7, 2, []), (8, 0, []), (9, 0, []), (10, 2, [])] (by kernel_rfl) (by kernel_rfl) (by simp only [picked, nth]; exact rfl) ?_
      repeat' (first | refine Ops.mv rfl rfl rfl rfl ?_ | refine Ops.nilP rfl rfl rfl rfl ?_ | refine Ops.fa0 rfl rfl rfl rfl ?_ | refine Ops.fa rfl rfl rfl rfl ?_ | refine Ops.ld1 rfl rfl rfl rfl rfl ?_ | refine Ops.ldRow1 rfl rfl rfl (by assumption) (by assumption) rfl rfl ?_)
      obtain ⟨hxo, hxl⟩ := ojs x (List.mem_of_getElem? hx)
      have hml : (x.j.log.map srow).length = x.j.log.length := List.length_map _
      have hmt : (e.texts.map srow).length = e.texts.length := List.length_map _
      refine Ops.appS (rows := x.j.log.map srow) (news := e.texts.map srow) hxo ((hS.ext hB).reads e.tc _) (by rw [hml, hmt]; omega) (by rw [hml, hmt]; omega) rfl rfl rfl rfl rfl (noPd rfl) rfl (fun v G' hG' => ?_)
      have hG2 : OwnT v (x.j.log ++ e.texts) G' := by
        unfold OwnT; rw [List.map_append]; exact hG'
      clear hG'
      obtain ⟨a', c', rfl⟩ := hG2.form
      repeat' (first | refine Ops.nilP rfl rfl rfl rfl ?_ | refine Ops.fa rfl rfl rfl rfl ?_)
      refine Ops.stRow1 rfl rfl rfl rfl rfl hok hrow rfl (noPd rfl) ?_
      exact Ops.nilN (end0 (A' := AuB ab (setS jobs (e.job - 1).toNat ⟨{ x.j with log := x.j.log ++ e.texts }, a', c', G'⟩ g jc spare r chunks pieces ends (brok ++ brk 5 (!emitB chunks e.badge e.index e.texts)) ba2 bc2 BG2)) rfl (fun w h => set_sat (⟨{ x.j with log := x.j.log ++ e.texts }, a', c', G'⟩ : JR) (x.row.set 4 (.slice a' (x.j.log ++ e.texts).length c')) (G' ++ (jobs.eraseIdx (e.job - 1).toNat).flatMap JR.G) rfl rfl hlt h.split)
        ⟨_, rfl, set_ok oj hsp hle (fun y hy => ⟨(ojs y hy).1, by have := (ojs y hy).2; omega⟩) oe hB2 few s0 s1 ⟨hG2, by show (x.j.log ++ e.texts).length ≤ _; rw [List.length_append]; omega⟩, by unfold SA.pure; dsimp only; rw [set_jobs _ hk], by simp [setS, hi], rfl, rfl, rfl, rfl⟩)
    · have hi' := hi
      refine ConB.intro (vs := [_, _]) Try.func25 rfl Try.ntmps25 rfl (fun B hB => ?_)
      repeat' (first | refine Cd.seq ?_ | refine Cd.reg ?_ | refine Ops.mv rfl rfl rfl rfl ?_ | refine Ops.ldN rfl rfl rfl rfl ?_ | refine Ops.box rfl rfl rfl rfl (noPd rfl) (fun b => ?_))
      refine Ops.call (held_yes ab g jc r (.slice ba (brok).length bc) jobs spare e x (by omega) hk hst hbd) rfl (noPd rfl) rfl rfl rfl (fun v A' hR => ?_)
      obtain ⟨rfl, rfl⟩ := hR
      repeat' (first | refine Cd.seq ?_ | refine Cd.reg ?_ | refine Ops.nil ?_ | refine Ops.mv rfl rfl rfl rfl ?_ | refine Ops.asg rfl rfl rfl rfl ?_ | refine Ops.bin rfl rfl rfl rfl rfl ?_ | refine Cd.condF rfl rfl ?_ | refine Cd.skip (Cd.next ?_))
      refine Cd.draw [(0, 0, []), (1, 0, []), (2, 1, []), (3, 0, []), (4, 0, []), (5, 0, []), (6, 1, []), (7, 1, []), (8, 0, []), (9, 0, []), (10, 0, []), (11, 0, []), (12, 1, []), (13, 0, []), (14, 1, []), (15, 0, []), (16, 1, []), (17, 2, []), (18, 0, []), (19, 0, []), (20, 2, [])] (by kernel_rfl) (by kernel_rfl) (by simp only [picked, nth]; exact rfl) ?_
      repeat' (first | refine Ops.mv rfl rfl rfl rfl ?_ | refine Ops.nilP rfl rfl rfl rfl ?_ | refine Ops.fa0 rfl rfl rfl rfl ?_ | refine Ops.fa rfl rfl rfl rfl ?_ | refine Ops.ld1 rfl rfl rfl rfl rfl ?_ | refine Ops.lenS rfl rfl rfl rfl ?_ | refine Ops.bin rfl rfl rfl rfl rfl ?_ | refine Ops.pickT rfl rfl rfl rfl rfl ?_ | refine Ops.gSkip rfl rfl rfl ?_ | refine Ops.gSkipE rfl (noPd rfl) rfl rfl ?_ | refine Ops.ldRow1 rfl rfl rfl (by assumption) (by assumption) rfl rfl ?_ | ((fail_if_success refine Ops.probe rfl ?_); refine Ops.gT rfl rfl (by first | rfl | assumption | (simp only [decide_eq_true_eq, decide_eq_false_iff_not, Bool.not_eq_true', Bool.not_eq_false', Bool.not_eq_eq_eq_not, Bool.not_true, Bool.not_false, beq_iff_eq, beq_eq_false_iff_ne, ne_eq, decide_eq_decide, eq_self, true_iff, iff_true, not_true_eq_false, not_false_eq_true]; first | done | omega)) ?_))
      refine Ops.call (breaks_spec ab (some ⟨g, 0, none⟩) jobs.length jc r ba bc (brok) BG 5 _ ob (by omega)) rfl (noPd rfl) rfl rfl rfl (fun v A' hR => ?_)
      obtain ⟨ba2, bc2, BG2, rfl, hB2⟩ := hR
      repeat' (first | refine Ops.nil ?_)
      refine Cd.draw [(0, 0, []), (1, 0, []), (2, 0, []), (3, 0, []), (4, 1, []), (5, 0, []), (6, 1, []), (7, 2, []), (8, 0, []), (9, 0, []), (10, 2, [])] (by kernel_rfl) (by kernel_rfl) (by simp only [picked, nth]; exact rfl) ?_
      repeat' (first | refine Ops.mv rfl rfl rfl rfl ?_ | refine Ops.nilP rfl rfl rfl rfl ?_ | refine Ops.fa0 rfl rfl rfl rfl ?_ | refine Ops.fa rfl rfl rfl rfl ?_ | refine Ops.ld1 rfl rfl rfl rfl rfl ?_ | refine Ops.ldRow1 rfl rfl rfl (by assumption) (by assumption) rfl rfl ?_)
      obtain ⟨hxo, hxl⟩ := ojs x (List.mem_of_getElem? hx)
      have hml : (x.j.log.map srow).length = x.j.log.length := List.length_map _
      have hmt : (e.texts.map srow).length = e.texts.length := List.length_map _
      refine Ops.appS (rows := x.j.log.map srow) (news := e.texts.map srow) hxo ((hS.ext hB).reads e.tc _) (by rw [hml, hmt]; omega) (by rw [hml, hmt]; omega) rfl rfl rfl rfl rfl (noPd rfl) rfl (fun v G' hG' => ?_)
      have hG2 : OwnT v (x.j.log ++ e.texts) G' := by
        unfold OwnT; rw [List.map_append]; exact hG'
      clear hG'
      obtain ⟨a', c', rfl⟩ := hG2.form
      repeat' (first | refine Ops.nilP rfl rfl rfl rfl ?_ | refine Ops.fa rfl rfl rfl rfl ?_)
      refine Ops.stRow1 rfl rfl rfl rfl rfl hok hrow rfl (noPd rfl) ?_
      exact Ops.nilN (end0 (A' := AuB ab (setS jobs (e.job - 1).toNat ⟨{ x.j with log := x.j.log ++ e.texts }, a', c', G'⟩ g jc spare r chunks pieces ends (brok ++ brk 5 true) ba2 bc2 BG2)) rfl (fun w h => set_sat (⟨{ x.j with log := x.j.log ++ e.texts }, a', c', G'⟩ : JR) (x.row.set 4 (.slice a' (x.j.log ++ e.texts).length c')) (G' ++ (jobs.eraseIdx (e.job - 1).toNat).flatMap JR.G) rfl rfl hlt h.split)
        ⟨_, rfl, set_ok oj hsp hle (fun y hy => ⟨(ojs y hy).1, by have := (ojs y hy).2; omega⟩) oe hB2 few s0 s1 ⟨hG2, by show (x.j.log ++ e.texts).length ≤ _; rw [List.length_append]; omega⟩, by unfold SA.pure; dsimp only; rw [set_jobs _ hk], by simp [setS, hi], rfl, rfl, rfl, rfl⟩)

theorem over_spec (ab k tot : Nat) (s : SA) (e : Ev) (h : s.ok k tot) (hb : s.brok.length ≤ 20) :
    Con Try.prog 26 #[ptr ab, .agg e.row.toArray] (AuB ab s) (ActR ab s k tot (overF s.pure e)) := by
  by_cases h7 : e.kind = 7
  · cases hse : settledA s.pure.jobs e.job
    · cases hh : heldA (s.jobs.map JR.j) e with
      | none =>
        rw [show overF s.pure e = (s.pure, brk 1 false ++ brk 4 true) from by unfold overF; rw [pure_held, hh, hse]; simp [h7]]
        obtain ⟨jobs, ja, jc, JG, r, chunks, pieces, ends, brok, ba, bc, BG⟩ := s
        obtain ⟨oj, ojs, oe, ob, few, s0, s1⟩ := h
        dsimp only [ActR, AuB, SA.pure] at *
        refine Con.intro (vs := [_, _]) Try.func26 rfl Try.ntmps26 rfl (fun B => ?_)
        repeat' (first | refine Cd.seq ?_ | refine Cd.reg ?_ | refine Ops.mv rfl rfl rfl rfl ?_ | refine Ops.ldN rfl rfl rfl rfl ?_ | refine Ops.box rfl rfl rfl rfl (noPd rfl) (fun b => ?_))
        refine Ops.call (held_no ab ja jc r (.slice ba (brok).length bc) jobs JG e oj (by omega) hh) rfl (noPd rfl) rfl rfl rfl (fun v A' hR => ?_)
        obtain ⟨rfl, rfl⟩ := hR
        repeat' (first | refine Cd.seq ?_ | refine Cd.reg ?_ | refine Ops.mv rfl rfl rfl rfl ?_ | refine Ops.asg rfl rfl rfl rfl ?_ | refine Ops.fa0 rfl rfl rfl rfl ?_ | refine Ops.ld1 rfl rfl rfl rfl rfl ?_ | refine Ops.bin rfl rfl rfl rfl rfl ?_ | ((fail_if_success refine Ops.probe rfl ?_); refine Ops.gT rfl rfl (by first | rfl | assumption | (simp only [decide_eq_true_eq, decide_eq_false_iff_not, Bool.not_eq_true', Bool.not_eq_false', Bool.not_eq_eq_eq_not, Bool.not_true, Bool.not_false, beq_iff_eq, beq_eq_false_iff_ne, ne_eq, decide_eq_decide, eq_self, true_iff, iff_true, not_true_eq_false, not_false_eq_true]; first | done | omega)) ?_))
        refine Ops.call (settled_spec ab ja jc r (.slice ba brok.length bc) jobs JG e.job oj (by omega)) rfl (noPd rfl) rfl rfl rfl (fun v A' hR => ?_)
        obtain ⟨rfl, rfl⟩ := hR
        rw [show settledA (jobs.map JR.j) e.job = false from hse]
        repeat' (first | refine Cd.seq ?_ | refine Cd.reg ?_ | refine Ops.mv rfl rfl rfl rfl ?_ | refine Ops.asg rfl rfl rfl rfl ?_ | refine Ops.pickT rfl rfl rfl rfl rfl ?_)
        refine Ops.call (breaks_spec ab ja jobs.length jc r ba bc (brok) BG 1 false ob (by omega)) rfl (noPd rfl) rfl rfl rfl (fun v A' hR => ?_)
        obtain ⟨ba2, bc2, BG2, rfl, hB2⟩ := hR
        repeat' (first | refine Cd.seq ?_ | refine Cd.reg ?_ | refine Ops.mv rfl rfl rfl rfl ?_ | refine Ops.bin rfl rfl rfl rfl rfl ?_ | refine Ops.un rfl rfl rfl rfl ?_ | refine Ops.pickT rfl rfl rfl rfl rfl ?_)
        refine Ops.call (breaks_spec ab ja jobs.length jc r ba2 bc2 (brok ++ brk 1 false) BG2 4 true hB2 (by have := brk_len 1 false; rw [List.length_append]; omega)) rfl (noPd rfl) rfl rfl rfl (fun v A' hR => ?_)
        obtain ⟨ba3, bc3, BG3, rfl, hB3⟩ := hR
        rw [List.append_assoc] at hB3 ⊢
        repeat' (first | refine Cd.seq ?_ | refine Cd.reg ?_ | refine Ops.nil ?_ | refine Ops.mv rfl rfl rfl rfl ?_ | refine Ops.bin rfl rfl rfl rfl rfl ?_ | refine Cd.condT rfl rfl ?_)
        exact Cd.ret (ret0 (A' := AuL ab ja jobs.length jc r (.slice ba3 (brok ++ (brk 1 false ++ brk 4 true)).length bc3) JG (jobs.flatMap JR.G) chunks pieces (eents ends) (ends.flatMap EN.G) BG3) rfl (fun _ h => h.split)
          ⟨⟨jobs, ja, jc, JG, r, chunks, pieces, ends, _, ba3, bc3, BG3⟩, rfl, ⟨oj, ojs, oe, hB3, few, s0, s1⟩, rfl, rfl, rfl, rfl, rfl, rfl⟩)
      | some j0 =>
        obtain ⟨x, hk, rfl, hst, hbd⟩ := heldA_some hh
        rw [show overF s.pure e = ({ s.pure with jobs := jobSet s.pure.jobs e.job { x.j with status := 4 } }, brk 1 false ++ brk 4 false) from by unfold overF; rw [held_is hk hst hbd, hse]; simp [h7, brk]]
        obtain ⟨jobs, ja, jc, JG, r, chunks, pieces, ends, brok, ba, bc, BG⟩ := s
        obtain ⟨oj, ojs, oe, ob, few, s0, s1⟩ := h
        dsimp only [ActR, AuB, SA.pure] at *
        obtain ⟨hr, hx⟩ := jobAt_some hk
        have hlt := (List.getElem?_eq_some_iff.1 hx).1
        obtain ⟨g, spare, rfl, _, rfl, hsp, hle⟩ := oj.some_ (by omega)
        have hok := jr_ok jobs
        have hrow : (jobs.map JR.row)[(e.job - 1).toNat]? = some x.row := by rw [List.getElem?_map, hx]; rfl
        have hp := flat_out (f := JR.G) hx
        refine Con.permIn (A := AuL ab (some ⟨g, 0, none⟩) jobs.length jc r (.slice ba brok.length bc) [(g, cl ((jobs.map JR.row).flatten ++ spare) 80)] (x.G ++ (jobs.eraseIdx (e.job - 1).toNat).flatMap JR.G) chunks pieces (eents ends) (ends.flatMap EN.G) BG) ?_ (AuL.perm hp)
        refine Con.intro (vs := [_, _]) Try.func26 rfl Try.ntmps26 rfl (fun B => ?_)
        repeat' (first | refine Cd.seq ?_ | refine Cd.reg ?_ | refine Ops.mv rfl rfl rfl rfl ?_ | refine Ops.ldN rfl rfl rfl rfl ?_ | refine Ops.box rfl rfl rfl rfl (noPd rfl) (fun b => ?_))
        refine Ops.call (held_yes ab g jc r (.slice ba (brok).length bc) jobs spare e x (by omega) hk hst hbd) rfl (noPd rfl) rfl rfl rfl (fun v A' hR => ?_)
        obtain ⟨rfl, rfl⟩ := hR
        repeat' (first | refine Cd.seq ?_ | refine Cd.reg ?_ | refine Ops.mv rfl rfl rfl rfl ?_ | refine Ops.asg rfl rfl rfl rfl ?_ | refine Ops.fa0 rfl rfl rfl rfl ?_ | refine Ops.ld1 rfl rfl rfl rfl rfl ?_ | refine Ops.bin rfl rfl rfl rfl rfl ?_ | ((fail_if_success refine Ops.probe rfl ?_); refine Ops.gT rfl rfl (by first | rfl | assumption | (simp only [decide_eq_true_eq, decide_eq_false_iff_not, Bool.not_eq_true', Bool.not_eq_false', Bool.not_eq_eq_eq_not, Bool.not_true, Bool.not_false, beq_iff_eq, beq_eq_false_iff_ne, ne_eq, decide_eq_decide, eq_self, true_iff, iff_true, not_true_eq_false, not_false_eq_true]; first | done | omega)) ?_))
        refine Ops.call (settled_spec ab (some ⟨g, 0, none⟩) jc r (.slice ba brok.length bc) jobs [(g, cl ((jobs.map JR.row).flatten ++ spare) 80)] e.job oj (by omega)) rfl (noPd rfl) rfl rfl rfl (fun v A' hR => ?_)
        obtain ⟨rfl, rfl⟩ := hR
        rw [show settledA (jobs.map JR.j) e.job = false from hse]
        repeat' (first | refine Cd.seq ?_ | refine Cd.reg ?_ | refine Ops.mv rfl rfl rfl rfl ?_ | refine Ops.asg rfl rfl rfl rfl ?_ | refine Ops.pickT rfl rfl rfl rfl rfl ?_)
        refine Ops.call (breaks_spec ab (some ⟨g, 0, none⟩) jobs.length jc r ba bc (brok) BG 1 false ob (by omega)) rfl (noPd rfl) rfl rfl rfl (fun v A' hR => ?_)
        obtain ⟨ba2, bc2, BG2, rfl, hB2⟩ := hR
        repeat' (first | refine Cd.seq ?_ | refine Cd.reg ?_ | refine Ops.mv rfl rfl rfl rfl ?_ | refine Ops.bin rfl rfl rfl rfl rfl ?_ | refine Ops.un rfl rfl rfl rfl ?_ | refine Ops.pickT rfl rfl rfl rfl rfl ?_)
        refine Ops.call (breaks_spec ab (some ⟨g, 0, none⟩) jobs.length jc r ba2 bc2 (brok ++ brk 1 false) BG2 4 false hB2 (by have := brk_len 1 false; rw [List.length_append]; omega)) rfl (noPd rfl) rfl rfl rfl (fun v A' hR => ?_)
        obtain ⟨ba3, bc3, BG3, rfl, hB3⟩ := hR
        rw [List.append_assoc] at hB3 ⊢
        repeat' (first | refine Cd.seq ?_ | refine Cd.reg ?_ | refine Ops.nil ?_ | refine Ops.mv rfl rfl rfl rfl ?_ | refine Ops.nilP rfl rfl rfl rfl ?_ | refine Ops.fa rfl rfl rfl rfl ?_ | refine Ops.bin rfl rfl rfl rfl rfl ?_ | refine Cd.condF rfl rfl ?_ | refine Cd.skip (Cd.next ?_))
        refine Ops.stRow1 rfl rfl rfl rfl rfl hok hrow rfl (noPd rfl) ?_
        repeat' (first | refine Cd.seq ?_ | refine Cd.reg ?_ | refine Ops.nil ?_ | refine Ops.mv rfl rfl rfl rfl ?_ | refine Ops.nilP rfl rfl rfl rfl ?_ | refine Ops.fa rfl rfl rfl rfl ?_ | refine Cd.condT rfl (by first | rfl | assumption | (simp only [decide_eq_true_eq, decide_eq_false_iff_not, Bool.not_eq_true', Bool.not_eq_false', Bool.not_eq_eq_eq_not, Bool.not_true, Bool.not_false, beq_iff_eq, beq_eq_false_iff_ne, ne_eq, decide_eq_decide, eq_self, true_iff, iff_true, not_true_eq_false, not_false_eq_true]; first | done | omega)) ?_)
        refine Ops.stRow1 rfl rfl rfl rfl rfl (hok.set rfl rfl) (List.getElem?_set_self (by rw [List.length_map]; exact hlt)) rfl (noPd rfl) ?_
        rw [List.set_set]
        exact Ops.nilN (end0 (A' := AuB ab (setS jobs (e.job - 1).toNat ⟨{ x.j with status := 4 }, x.la, x.lc, x.G⟩ g jc spare r chunks pieces ends (brok ++ (brk 1 false ++ brk 4 false)) ba3 bc3 BG3)) rfl (fun w h => set_sat (⟨{ x.j with status := 4 }, x.la, x.lc, x.G⟩ : JR) ((x.row.set 0 (.int .i64 1)).set 0 (.int .i64 4)) (x.G ++ (jobs.eraseIdx (e.job - 1).toNat).flatMap JR.G) rfl rfl hlt h.split)
          ⟨_, rfl, set_ok oj hsp hle ojs oe hB3 few s0 s1 (ojs x (List.mem_of_getElem? hx)), by unfold SA.pure; dsimp only; rw [set_jobs _ hk], rfl, rfl, rfl, rfl, rfl⟩)
    · cases hh : heldA (s.jobs.map JR.j) e with
      | none =>
        rw [show overF s.pure e = (s.pure, brk 1 true ++ brk 4 false) from by unfold overF; rw [pure_held, hh, hse]; simp [h7]]
        obtain ⟨jobs, ja, jc, JG, r, chunks, pieces, ends, brok, ba, bc, BG⟩ := s
        obtain ⟨oj, ojs, oe, ob, few, s0, s1⟩ := h
        dsimp only [ActR, AuB, SA.pure] at *
        refine Con.intro (vs := [_, _]) Try.func26 rfl Try.ntmps26 rfl (fun B => ?_)
        repeat' (first | refine Cd.seq ?_ | refine Cd.reg ?_ | refine Ops.mv rfl rfl rfl rfl ?_ | refine Ops.ldN rfl rfl rfl rfl ?_ | refine Ops.box rfl rfl rfl rfl (noPd rfl) (fun b => ?_))
        refine Ops.call (held_no ab ja jc r (.slice ba (brok).length bc) jobs JG e oj (by omega) hh) rfl (noPd rfl) rfl rfl rfl (fun v A' hR => ?_)
        obtain ⟨rfl, rfl⟩ := hR
        repeat' (first | refine Cd.seq ?_ | refine Cd.reg ?_ | refine Ops.mv rfl rfl rfl rfl ?_ | refine Ops.asg rfl rfl rfl rfl ?_ | refine Ops.fa0 rfl rfl rfl rfl ?_ | refine Ops.ld1 rfl rfl rfl rfl rfl ?_ | refine Ops.bin rfl rfl rfl rfl rfl ?_ | ((fail_if_success refine Ops.probe rfl ?_); refine Ops.gT rfl rfl (by first | rfl | assumption | (simp only [decide_eq_true_eq, decide_eq_false_iff_not, Bool.not_eq_true', Bool.not_eq_false', Bool.not_eq_eq_eq_not, Bool.not_true, Bool.not_false, beq_iff_eq, beq_eq_false_iff_ne, ne_eq, decide_eq_decide, eq_self, true_iff, iff_true, not_true_eq_false, not_false_eq_true]; first | done | omega)) ?_))
        refine Ops.call (settled_spec ab ja jc r (.slice ba brok.length bc) jobs JG e.job oj (by omega)) rfl (noPd rfl) rfl rfl rfl (fun v A' hR => ?_)
        obtain ⟨rfl, rfl⟩ := hR
        rw [show settledA (jobs.map JR.j) e.job = true from hse]
        repeat' (first | refine Cd.seq ?_ | refine Cd.reg ?_ | refine Ops.mv rfl rfl rfl rfl ?_ | refine Ops.asg rfl rfl rfl rfl ?_ | refine Ops.pickT rfl rfl rfl rfl rfl ?_)
        refine Ops.call (breaks_spec ab ja jobs.length jc r ba bc (brok) BG 1 true ob (by omega)) rfl (noPd rfl) rfl rfl rfl (fun v A' hR => ?_)
        obtain ⟨ba2, bc2, BG2, rfl, hB2⟩ := hR
        repeat' (first | refine Cd.seq ?_ | refine Cd.reg ?_ | refine Ops.mv rfl rfl rfl rfl ?_ | refine Ops.un rfl rfl rfl rfl ?_ | refine Ops.pickF rfl rfl rfl rfl rfl ?_ | refine Ops.gSkip rfl rfl rfl ?_)
        refine Ops.call (breaks_spec ab ja jobs.length jc r ba2 bc2 (brok ++ brk 1 true) BG2 4 false hB2 (by have := brk_len 1 true; rw [List.length_append]; omega)) rfl (noPd rfl) rfl rfl rfl (fun v A' hR => ?_)
        obtain ⟨ba3, bc3, BG3, rfl, hB3⟩ := hR
        rw [List.append_assoc] at hB3 ⊢
        repeat' (first | refine Cd.seq ?_ | refine Cd.reg ?_ | refine Ops.nil ?_ | refine Ops.mv rfl rfl rfl rfl ?_ | refine Ops.bin rfl rfl rfl rfl rfl ?_ | refine Cd.condT rfl rfl ?_)
        exact Cd.ret (ret0 (A' := AuL ab ja jobs.length jc r (.slice ba3 (brok ++ (brk 1 true ++ brk 4 false)).length bc3) JG (jobs.flatMap JR.G) chunks pieces (eents ends) (ends.flatMap EN.G) BG3) rfl (fun _ h => h.split)
          ⟨⟨jobs, ja, jc, JG, r, chunks, pieces, ends, _, ba3, bc3, BG3⟩, rfl, ⟨oj, ojs, oe, hB3, few, s0, s1⟩, rfl, rfl, rfl, rfl, rfl, rfl⟩)
      | some j0 =>
        obtain ⟨x, hk, rfl, hst, hbd⟩ := heldA_some hh
        rw [show overF s.pure e = ({ s.pure with jobs := jobSet s.pure.jobs e.job { x.j with status := 4 } }, brk 1 true ++ brk 4 false) from by unfold overF; rw [held_is hk hst hbd, hse]; simp [h7, brk]]
        obtain ⟨jobs, ja, jc, JG, r, chunks, pieces, ends, brok, ba, bc, BG⟩ := s
        obtain ⟨oj, ojs, oe, ob, few, s0, s1⟩ := h
        dsimp only [ActR, AuB, SA.pure] at *
        obtain ⟨hr, hx⟩ := jobAt_some hk
        have hlt := (List.getElem?_eq_some_iff.1 hx).1
        obtain ⟨g, spare, rfl, _, rfl, hsp, hle⟩ := oj.some_ (by omega)
        have hok := jr_ok jobs
        have hrow : (jobs.map JR.row)[(e.job - 1).toNat]? = some x.row := by rw [List.getElem?_map, hx]; rfl
        have hp := flat_out (f := JR.G) hx
        refine Con.permIn (A := AuL ab (some ⟨g, 0, none⟩) jobs.length jc r (.slice ba brok.length bc) [(g, cl ((jobs.map JR.row).flatten ++ spare) 80)] (x.G ++ (jobs.eraseIdx (e.job - 1).toNat).flatMap JR.G) chunks pieces (eents ends) (ends.flatMap EN.G) BG) ?_ (AuL.perm hp)
        refine Con.intro (vs := [_, _]) Try.func26 rfl Try.ntmps26 rfl (fun B => ?_)
        repeat' (first | refine Cd.seq ?_ | refine Cd.reg ?_ | refine Ops.mv rfl rfl rfl rfl ?_ | refine Ops.ldN rfl rfl rfl rfl ?_ | refine Ops.box rfl rfl rfl rfl (noPd rfl) (fun b => ?_))
        refine Ops.call (held_yes ab g jc r (.slice ba (brok).length bc) jobs spare e x (by omega) hk hst hbd) rfl (noPd rfl) rfl rfl rfl (fun v A' hR => ?_)
        obtain ⟨rfl, rfl⟩ := hR
        repeat' (first | refine Cd.seq ?_ | refine Cd.reg ?_ | refine Ops.mv rfl rfl rfl rfl ?_ | refine Ops.asg rfl rfl rfl rfl ?_ | refine Ops.fa0 rfl rfl rfl rfl ?_ | refine Ops.ld1 rfl rfl rfl rfl rfl ?_ | refine Ops.bin rfl rfl rfl rfl rfl ?_ | ((fail_if_success refine Ops.probe rfl ?_); refine Ops.gT rfl rfl (by first | rfl | assumption | (simp only [decide_eq_true_eq, decide_eq_false_iff_not, Bool.not_eq_true', Bool.not_eq_false', Bool.not_eq_eq_eq_not, Bool.not_true, Bool.not_false, beq_iff_eq, beq_eq_false_iff_ne, ne_eq, decide_eq_decide, eq_self, true_iff, iff_true, not_true_eq_false, not_false_eq_true]; first | done | omega)) ?_))
        refine Ops.call (settled_spec ab (some ⟨g, 0, none⟩) jc r (.slice ba brok.length bc) jobs [(g, cl ((jobs.map JR.row).flatten ++ spare) 80)] e.job oj (by omega)) rfl (noPd rfl) rfl rfl rfl (fun v A' hR => ?_)
        obtain ⟨rfl, rfl⟩ := hR
        rw [show settledA (jobs.map JR.j) e.job = true from hse]
        repeat' (first | refine Cd.seq ?_ | refine Cd.reg ?_ | refine Ops.mv rfl rfl rfl rfl ?_ | refine Ops.asg rfl rfl rfl rfl ?_ | refine Ops.pickT rfl rfl rfl rfl rfl ?_)
        refine Ops.call (breaks_spec ab (some ⟨g, 0, none⟩) jobs.length jc r ba bc (brok) BG 1 true ob (by omega)) rfl (noPd rfl) rfl rfl rfl (fun v A' hR => ?_)
        obtain ⟨ba2, bc2, BG2, rfl, hB2⟩ := hR
        repeat' (first | refine Cd.seq ?_ | refine Cd.reg ?_ | refine Ops.mv rfl rfl rfl rfl ?_ | refine Ops.un rfl rfl rfl rfl ?_ | refine Ops.pickF rfl rfl rfl rfl rfl ?_ | refine Ops.gSkip rfl rfl rfl ?_)
        refine Ops.call (breaks_spec ab (some ⟨g, 0, none⟩) jobs.length jc r ba2 bc2 (brok ++ brk 1 true) BG2 4 false hB2 (by have := brk_len 1 true; rw [List.length_append]; omega)) rfl (noPd rfl) rfl rfl rfl (fun v A' hR => ?_)
        obtain ⟨ba3, bc3, BG3, rfl, hB3⟩ := hR
        rw [List.append_assoc] at hB3 ⊢
        repeat' (first | refine Cd.seq ?_ | refine Cd.reg ?_ | refine Ops.nil ?_ | refine Ops.mv rfl rfl rfl rfl ?_ | refine Ops.nilP rfl rfl rfl rfl ?_ | refine Ops.fa rfl rfl rfl rfl ?_ | refine Ops.bin rfl rfl rfl rfl rfl ?_ | refine Cd.condF rfl rfl ?_ | refine Cd.skip (Cd.next ?_))
        refine Ops.stRow1 rfl rfl rfl rfl rfl hok hrow rfl (noPd rfl) ?_
        repeat' (first | refine Cd.seq ?_ | refine Cd.reg ?_ | refine Ops.nil ?_ | refine Ops.mv rfl rfl rfl rfl ?_ | refine Ops.nilP rfl rfl rfl rfl ?_ | refine Ops.fa rfl rfl rfl rfl ?_ | refine Cd.condT rfl (by first | rfl | assumption | (simp only [decide_eq_true_eq, decide_eq_false_iff_not, Bool.not_eq_true', Bool.not_eq_false', Bool.not_eq_eq_eq_not, Bool.not_true, Bool.not_false, beq_iff_eq, beq_eq_false_iff_ne, ne_eq, decide_eq_decide, eq_self, true_iff, iff_true, not_true_eq_false, not_false_eq_true]; first | done | omega)) ?_)
        refine Ops.stRow1 rfl rfl rfl rfl rfl (hok.set rfl rfl) (List.getElem?_set_self (by rw [List.length_map]; exact hlt)) rfl (noPd rfl) ?_
        rw [List.set_set]
        exact Ops.nilN (end0 (A' := AuB ab (setS jobs (e.job - 1).toNat ⟨{ x.j with status := 4 }, x.la, x.lc, x.G⟩ g jc spare r chunks pieces ends (brok ++ (brk 1 true ++ brk 4 false)) ba3 bc3 BG3)) rfl (fun w h => set_sat (⟨{ x.j with status := 4 }, x.la, x.lc, x.G⟩ : JR) ((x.row.set 0 (.int .i64 1)).set 0 (.int .i64 4)) (x.G ++ (jobs.eraseIdx (e.job - 1).toNat).flatMap JR.G) rfl rfl hlt h.split)
          ⟨_, rfl, set_ok oj hsp hle ojs oe hB3 few s0 s1 (ojs x (List.mem_of_getElem? hx)), by unfold SA.pure; dsimp only; rw [set_jobs _ hk], rfl, rfl, rfl, rfl, rfl⟩)
  · cases hse : settledA s.pure.jobs e.job
    · cases hh : heldA (s.jobs.map JR.j) e with
      | none =>
        rw [show overF s.pure e = (s.pure, brk 1 false ++ brk 4 true) from by unfold overF; rw [pure_held, hh, hse]; simp [h7]]
        obtain ⟨jobs, ja, jc, JG, r, chunks, pieces, ends, brok, ba, bc, BG⟩ := s
        obtain ⟨oj, ojs, oe, ob, few, s0, s1⟩ := h
        dsimp only [ActR, AuB, SA.pure] at *
        refine Con.intro (vs := [_, _]) Try.func26 rfl Try.ntmps26 rfl (fun B => ?_)
        repeat' (first | refine Cd.seq ?_ | refine Cd.reg ?_ | refine Ops.mv rfl rfl rfl rfl ?_ | refine Ops.ldN rfl rfl rfl rfl ?_ | refine Ops.box rfl rfl rfl rfl (noPd rfl) (fun b => ?_))
        refine Ops.call (held_no ab ja jc r (.slice ba (brok).length bc) jobs JG e oj (by omega) hh) rfl (noPd rfl) rfl rfl rfl (fun v A' hR => ?_)
        obtain ⟨rfl, rfl⟩ := hR
        repeat' (first | refine Cd.seq ?_ | refine Cd.reg ?_ | refine Ops.mv rfl rfl rfl rfl ?_ | refine Ops.asg rfl rfl rfl rfl ?_ | refine Ops.fa0 rfl rfl rfl rfl ?_ | refine Ops.ld1 rfl rfl rfl rfl rfl ?_ | refine Ops.bin rfl rfl rfl rfl rfl ?_ | refine Ops.pickF rfl rfl rfl rfl rfl ?_ | refine Ops.gSkip rfl rfl rfl ?_ | ((fail_if_success refine Ops.probe rfl ?_); refine Ops.gF rfl rfl (by first | rfl | assumption | (simp only [decide_eq_true_eq, decide_eq_false_iff_not, Bool.not_eq_true', Bool.not_eq_false', Bool.not_eq_eq_eq_not, Bool.not_true, Bool.not_false, beq_iff_eq, beq_eq_false_iff_ne, ne_eq, decide_eq_decide, eq_self, true_iff, iff_true, not_true_eq_false, not_false_eq_true]; first | done | omega)) ?_))
        refine Ops.call (breaks_spec ab ja jobs.length jc r ba bc (brok) BG 1 false ob (by omega)) rfl (noPd rfl) rfl rfl rfl (fun v A' hR => ?_)
        obtain ⟨ba2, bc2, BG2, rfl, hB2⟩ := hR
        repeat' (first | refine Cd.seq ?_ | refine Cd.reg ?_ | refine Ops.mv rfl rfl rfl rfl ?_ | refine Ops.bin rfl rfl rfl rfl rfl ?_ | refine Ops.un rfl rfl rfl rfl ?_ | refine Ops.pickT rfl rfl rfl rfl rfl ?_)
        refine Ops.call (breaks_spec ab ja jobs.length jc r ba2 bc2 (brok ++ brk 1 false) BG2 4 true hB2 (by have := brk_len 1 false; rw [List.length_append]; omega)) rfl (noPd rfl) rfl rfl rfl (fun v A' hR => ?_)
        obtain ⟨ba3, bc3, BG3, rfl, hB3⟩ := hR
        rw [List.append_assoc] at hB3 ⊢
        repeat' (first | refine Cd.seq ?_ | refine Cd.reg ?_ | refine Ops.nil ?_ | refine Ops.mv rfl rfl rfl rfl ?_ | refine Ops.bin rfl rfl rfl rfl rfl ?_ | refine Cd.condT rfl rfl ?_)
        exact Cd.ret (ret0 (A' := AuL ab ja jobs.length jc r (.slice ba3 (brok ++ (brk 1 false ++ brk 4 true)).length bc3) JG (jobs.flatMap JR.G) chunks pieces (eents ends) (ends.flatMap EN.G) BG3) rfl (fun _ h => h.split)
          ⟨⟨jobs, ja, jc, JG, r, chunks, pieces, ends, _, ba3, bc3, BG3⟩, rfl, ⟨oj, ojs, oe, hB3, few, s0, s1⟩, rfl, rfl, rfl, rfl, rfl, rfl⟩)
      | some j0 =>
        obtain ⟨x, hk, rfl, hst, hbd⟩ := heldA_some hh
        rw [show overF s.pure e = ({ s.pure with jobs := jobSet s.pure.jobs e.job { x.j with status := 1 } }, brk 1 false ++ brk 4 false) from by unfold overF; rw [held_is hk hst hbd, hse]; simp [h7, brk]]
        obtain ⟨jobs, ja, jc, JG, r, chunks, pieces, ends, brok, ba, bc, BG⟩ := s
        obtain ⟨oj, ojs, oe, ob, few, s0, s1⟩ := h
        dsimp only [ActR, AuB, SA.pure] at *
        obtain ⟨hr, hx⟩ := jobAt_some hk
        have hlt := (List.getElem?_eq_some_iff.1 hx).1
        obtain ⟨g, spare, rfl, _, rfl, hsp, hle⟩ := oj.some_ (by omega)
        have hok := jr_ok jobs
        have hrow : (jobs.map JR.row)[(e.job - 1).toNat]? = some x.row := by rw [List.getElem?_map, hx]; rfl
        have hp := flat_out (f := JR.G) hx
        refine Con.permIn (A := AuL ab (some ⟨g, 0, none⟩) jobs.length jc r (.slice ba brok.length bc) [(g, cl ((jobs.map JR.row).flatten ++ spare) 80)] (x.G ++ (jobs.eraseIdx (e.job - 1).toNat).flatMap JR.G) chunks pieces (eents ends) (ends.flatMap EN.G) BG) ?_ (AuL.perm hp)
        refine Con.intro (vs := [_, _]) Try.func26 rfl Try.ntmps26 rfl (fun B => ?_)
        repeat' (first | refine Cd.seq ?_ | refine Cd.reg ?_ | refine Ops.mv rfl rfl rfl rfl ?_ | refine Ops.ldN rfl rfl rfl rfl ?_ | refine Ops.box rfl rfl rfl rfl (noPd rfl) (fun b => ?_))
        refine Ops.call (held_yes ab g jc r (.slice ba (brok).length bc) jobs spare e x (by omega) hk hst hbd) rfl (noPd rfl) rfl rfl rfl (fun v A' hR => ?_)
        obtain ⟨rfl, rfl⟩ := hR
        repeat' (first | refine Cd.seq ?_ | refine Cd.reg ?_ | refine Ops.mv rfl rfl rfl rfl ?_ | refine Ops.asg rfl rfl rfl rfl ?_ | refine Ops.fa0 rfl rfl rfl rfl ?_ | refine Ops.ld1 rfl rfl rfl rfl rfl ?_ | refine Ops.bin rfl rfl rfl rfl rfl ?_ | refine Ops.pickF rfl rfl rfl rfl rfl ?_ | refine Ops.gSkip rfl rfl rfl ?_ | ((fail_if_success refine Ops.probe rfl ?_); refine Ops.gF rfl rfl (by first | rfl | assumption | (simp only [decide_eq_true_eq, decide_eq_false_iff_not, Bool.not_eq_true', Bool.not_eq_false', Bool.not_eq_eq_eq_not, Bool.not_true, Bool.not_false, beq_iff_eq, beq_eq_false_iff_ne, ne_eq, decide_eq_decide, eq_self, true_iff, iff_true, not_true_eq_false, not_false_eq_true]; first | done | omega)) ?_))
        refine Ops.call (breaks_spec ab (some ⟨g, 0, none⟩) jobs.length jc r ba bc (brok) BG 1 false ob (by omega)) rfl (noPd rfl) rfl rfl rfl (fun v A' hR => ?_)
        obtain ⟨ba2, bc2, BG2, rfl, hB2⟩ := hR
        repeat' (first | refine Cd.seq ?_ | refine Cd.reg ?_ | refine Ops.mv rfl rfl rfl rfl ?_ | refine Ops.bin rfl rfl rfl rfl rfl ?_ | refine Ops.un rfl rfl rfl rfl ?_ | refine Ops.pickT rfl rfl rfl rfl rfl ?_)
        refine Ops.call (breaks_spec ab (some ⟨g, 0, none⟩) jobs.length jc r ba2 bc2 (brok ++ brk 1 false) BG2 4 false hB2 (by have := brk_len 1 false; rw [List.length_append]; omega)) rfl (noPd rfl) rfl rfl rfl (fun v A' hR => ?_)
        obtain ⟨ba3, bc3, BG3, rfl, hB3⟩ := hR
        rw [List.append_assoc] at hB3 ⊢
        repeat' (first | refine Cd.seq ?_ | refine Cd.reg ?_ | refine Ops.nil ?_ | refine Ops.mv rfl rfl rfl rfl ?_ | refine Ops.nilP rfl rfl rfl rfl ?_ | refine Ops.fa rfl rfl rfl rfl ?_ | refine Ops.bin rfl rfl rfl rfl rfl ?_ | refine Cd.condF rfl rfl ?_ | refine Cd.skip (Cd.next ?_))
        refine Ops.stRow1 rfl rfl rfl rfl rfl hok hrow rfl (noPd rfl) ?_
        repeat' (first | refine Cd.seq ?_ | refine Cd.reg ?_ | refine Ops.nil ?_ | refine Ops.mv rfl rfl rfl rfl ?_ | refine Cd.condF rfl (by first | rfl | assumption | (simp only [decide_eq_true_eq, decide_eq_false_iff_not, Bool.not_eq_true', Bool.not_eq_false', Bool.not_eq_eq_eq_not, Bool.not_true, Bool.not_false, beq_iff_eq, beq_eq_false_iff_ne, ne_eq, decide_eq_decide, eq_self, true_iff, iff_true, not_true_eq_false, not_false_eq_true]; first | done | omega)) ?_)
        exact Cd.skip (end0 (A' := AuB ab (setS jobs (e.job - 1).toNat ⟨{ x.j with status := 1 }, x.la, x.lc, x.G⟩ g jc spare r chunks pieces ends (brok ++ (brk 1 false ++ brk 4 false)) ba3 bc3 BG3)) rfl (fun w h => set_sat (⟨{ x.j with status := 1 }, x.la, x.lc, x.G⟩ : JR) (x.row.set 0 (.int .i64 1)) (x.G ++ (jobs.eraseIdx (e.job - 1).toNat).flatMap JR.G) rfl rfl hlt h.split)
          ⟨_, rfl, set_ok oj hsp hle ojs oe hB3 few s0 s1 (ojs x (List.mem_of_getElem? hx)), by unfold SA.pure; dsimp only; rw [set_jobs _ hk], rfl, rfl, rfl, rfl, rfl⟩)
    · cases hh : heldA (s.jobs.map JR.j) e with
      | none =>
        rw [show overF s.pure e = (s.pure, brk 1 false ++ brk 4 true) from by unfold overF; rw [pure_held, hh, hse]; simp [h7]]
        obtain ⟨jobs, ja, jc, JG, r, chunks, pieces, ends, brok, ba, bc, BG⟩ := s
        obtain ⟨oj, ojs, oe, ob, few, s0, s1⟩ := h
        dsimp only [ActR, AuB, SA.pure] at *
        refine Con.intro (vs := [_, _]) Try.func26 rfl Try.ntmps26 rfl (fun B => ?_)
        repeat' (first | refine Cd.seq ?_ | refine Cd.reg ?_ | refine Ops.mv rfl rfl rfl rfl ?_ | refine Ops.ldN rfl rfl rfl rfl ?_ | refine Ops.box rfl rfl rfl rfl (noPd rfl) (fun b => ?_))
        refine Ops.call (held_no ab ja jc r (.slice ba (brok).length bc) jobs JG e oj (by omega) hh) rfl (noPd rfl) rfl rfl rfl (fun v A' hR => ?_)
        obtain ⟨rfl, rfl⟩ := hR
        repeat' (first | refine Cd.seq ?_ | refine Cd.reg ?_ | refine Ops.mv rfl rfl rfl rfl ?_ | refine Ops.asg rfl rfl rfl rfl ?_ | refine Ops.fa0 rfl rfl rfl rfl ?_ | refine Ops.ld1 rfl rfl rfl rfl rfl ?_ | refine Ops.bin rfl rfl rfl rfl rfl ?_ | refine Ops.pickF rfl rfl rfl rfl rfl ?_ | refine Ops.gSkip rfl rfl rfl ?_ | ((fail_if_success refine Ops.probe rfl ?_); refine Ops.gF rfl rfl (by first | rfl | assumption | (simp only [decide_eq_true_eq, decide_eq_false_iff_not, Bool.not_eq_true', Bool.not_eq_false', Bool.not_eq_eq_eq_not, Bool.not_true, Bool.not_false, beq_iff_eq, beq_eq_false_iff_ne, ne_eq, decide_eq_decide, eq_self, true_iff, iff_true, not_true_eq_false, not_false_eq_true]; first | done | omega)) ?_))
        refine Ops.call (breaks_spec ab ja jobs.length jc r ba bc (brok) BG 1 false ob (by omega)) rfl (noPd rfl) rfl rfl rfl (fun v A' hR => ?_)
        obtain ⟨ba2, bc2, BG2, rfl, hB2⟩ := hR
        repeat' (first | refine Cd.seq ?_ | refine Cd.reg ?_ | refine Ops.mv rfl rfl rfl rfl ?_ | refine Ops.bin rfl rfl rfl rfl rfl ?_ | refine Ops.un rfl rfl rfl rfl ?_ | refine Ops.pickT rfl rfl rfl rfl rfl ?_)
        refine Ops.call (breaks_spec ab ja jobs.length jc r ba2 bc2 (brok ++ brk 1 false) BG2 4 true hB2 (by have := brk_len 1 false; rw [List.length_append]; omega)) rfl (noPd rfl) rfl rfl rfl (fun v A' hR => ?_)
        obtain ⟨ba3, bc3, BG3, rfl, hB3⟩ := hR
        rw [List.append_assoc] at hB3 ⊢
        repeat' (first | refine Cd.seq ?_ | refine Cd.reg ?_ | refine Ops.nil ?_ | refine Ops.mv rfl rfl rfl rfl ?_ | refine Ops.bin rfl rfl rfl rfl rfl ?_ | refine Cd.condT rfl rfl ?_)
        exact Cd.ret (ret0 (A' := AuL ab ja jobs.length jc r (.slice ba3 (brok ++ (brk 1 false ++ brk 4 true)).length bc3) JG (jobs.flatMap JR.G) chunks pieces (eents ends) (ends.flatMap EN.G) BG3) rfl (fun _ h => h.split)
          ⟨⟨jobs, ja, jc, JG, r, chunks, pieces, ends, _, ba3, bc3, BG3⟩, rfl, ⟨oj, ojs, oe, hB3, few, s0, s1⟩, rfl, rfl, rfl, rfl, rfl, rfl⟩)
      | some j0 =>
        obtain ⟨x, hk, rfl, hst, hbd⟩ := heldA_some hh
        rw [show overF s.pure e = ({ s.pure with jobs := jobSet s.pure.jobs e.job { x.j with status := 1 } }, brk 1 false ++ brk 4 false) from by unfold overF; rw [held_is hk hst hbd, hse]; simp [h7, brk]]
        obtain ⟨jobs, ja, jc, JG, r, chunks, pieces, ends, brok, ba, bc, BG⟩ := s
        obtain ⟨oj, ojs, oe, ob, few, s0, s1⟩ := h
        dsimp only [ActR, AuB, SA.pure] at *
        obtain ⟨hr, hx⟩ := jobAt_some hk
        have hlt := (List.getElem?_eq_some_iff.1 hx).1
        obtain ⟨g, spare, rfl, _, rfl, hsp, hle⟩ := oj.some_ (by omega)
        have hok := jr_ok jobs
        have hrow : (jobs.map JR.row)[(e.job - 1).toNat]? = some x.row := by rw [List.getElem?_map, hx]; rfl
        have hp := flat_out (f := JR.G) hx
        refine Con.permIn (A := AuL ab (some ⟨g, 0, none⟩) jobs.length jc r (.slice ba brok.length bc) [(g, cl ((jobs.map JR.row).flatten ++ spare) 80)] (x.G ++ (jobs.eraseIdx (e.job - 1).toNat).flatMap JR.G) chunks pieces (eents ends) (ends.flatMap EN.G) BG) ?_ (AuL.perm hp)
        refine Con.intro (vs := [_, _]) Try.func26 rfl Try.ntmps26 rfl (fun B => ?_)
        repeat' (first | refine Cd.seq ?_ | refine Cd.reg ?_ | refine Ops.mv rfl rfl rfl rfl ?_ | refine Ops.ldN rfl rfl rfl rfl ?_ | refine Ops.box rfl rfl rfl rfl (noPd rfl) (fun b => ?_))
        refine Ops.call (held_yes ab g jc r (.slice ba (brok).length bc) jobs spare e x (by omega) hk hst hbd) rfl (noPd rfl) rfl rfl rfl (fun v A' hR => ?_)
        obtain ⟨rfl, rfl⟩ := hR
        repeat' (first | refine Cd.seq ?_ | refine Cd.reg ?_ | refine Ops.mv rfl rfl rfl rfl ?_ | refine Ops.asg rfl rfl rfl rfl ?_ | refine Ops.fa0 rfl rfl rfl rfl ?_ | refine Ops.ld1 rfl rfl rfl rfl rfl ?_ | refine Ops.bin rfl rfl rfl rfl rfl ?_ | refine Ops.pickF rfl rfl rfl rfl rfl ?_ | refine Ops.gSkip rfl rfl rfl ?_ | ((fail_if_success refine Ops.probe rfl ?_); refine Ops.gF rfl rfl (by first | rfl | assumption | (simp only [decide_eq_true_eq, decide_eq_false_iff_not, Bool.not_eq_true', Bool.not_eq_false', Bool.not_eq_eq_eq_not, Bool.not_true, Bool.not_false, beq_iff_eq, beq_eq_false_iff_ne, ne_eq, decide_eq_decide, eq_self, true_iff, iff_true, not_true_eq_false, not_false_eq_true]; first | done | omega)) ?_))
        refine Ops.call (breaks_spec ab (some ⟨g, 0, none⟩) jobs.length jc r ba bc (brok) BG 1 false ob (by omega)) rfl (noPd rfl) rfl rfl rfl (fun v A' hR => ?_)
        obtain ⟨ba2, bc2, BG2, rfl, hB2⟩ := hR
        repeat' (first | refine Cd.seq ?_ | refine Cd.reg ?_ | refine Ops.mv rfl rfl rfl rfl ?_ | refine Ops.bin rfl rfl rfl rfl rfl ?_ | refine Ops.un rfl rfl rfl rfl ?_ | refine Ops.pickT rfl rfl rfl rfl rfl ?_)
        refine Ops.call (breaks_spec ab (some ⟨g, 0, none⟩) jobs.length jc r ba2 bc2 (brok ++ brk 1 false) BG2 4 false hB2 (by have := brk_len 1 false; rw [List.length_append]; omega)) rfl (noPd rfl) rfl rfl rfl (fun v A' hR => ?_)
        obtain ⟨ba3, bc3, BG3, rfl, hB3⟩ := hR
        rw [List.append_assoc] at hB3 ⊢
        repeat' (first | refine Cd.seq ?_ | refine Cd.reg ?_ | refine Ops.nil ?_ | refine Ops.mv rfl rfl rfl rfl ?_ | refine Ops.nilP rfl rfl rfl rfl ?_ | refine Ops.fa rfl rfl rfl rfl ?_ | refine Ops.bin rfl rfl rfl rfl rfl ?_ | refine Cd.condF rfl rfl ?_ | refine Cd.skip (Cd.next ?_))
        refine Ops.stRow1 rfl rfl rfl rfl rfl hok hrow rfl (noPd rfl) ?_
        repeat' (first | refine Cd.seq ?_ | refine Cd.reg ?_ | refine Ops.nil ?_ | refine Ops.mv rfl rfl rfl rfl ?_ | refine Cd.condF rfl (by first | rfl | assumption | (simp only [decide_eq_true_eq, decide_eq_false_iff_not, Bool.not_eq_true', Bool.not_eq_false', Bool.not_eq_eq_eq_not, Bool.not_true, Bool.not_false, beq_iff_eq, beq_eq_false_iff_ne, ne_eq, decide_eq_decide, eq_self, true_iff, iff_true, not_true_eq_false, not_false_eq_true]; first | done | omega)) ?_)
        exact Cd.skip (end0 (A' := AuB ab (setS jobs (e.job - 1).toNat ⟨{ x.j with status := 1 }, x.la, x.lc, x.G⟩ g jc spare r chunks pieces ends (brok ++ (brk 1 false ++ brk 4 false)) ba3 bc3 BG3)) rfl (fun w h => set_sat (⟨{ x.j with status := 1 }, x.la, x.lc, x.G⟩ : JR) (x.row.set 0 (.int .i64 1)) (x.G ++ (jobs.eraseIdx (e.job - 1).toNat).flatMap JR.G) rfl rfl hlt h.split)
          ⟨_, rfl, set_ok oj hsp hle ojs oe hB3 few s0 s1 (ojs x (List.mem_of_getElem? hx)), by unfold SA.pure; dsimp only; rw [set_jobs _ hk], rfl, rfl, rfl, rfl, rfl⟩)
end Go.Proofs.Ytfghnepmbgbnoaa
