import Derived.Test.YtfghnepmbgbnoaaA7
namespace Go.Proofs.Ytfghnepmbgbnoaa
open Go Go.Sep Go.Proofs
set_option maxRecDepth 10000
set_option maxHeartbeats 4000000
set_option synthInstance.maxSize 2000
set_option linter.unusedSimpArgs false
set_option linter.unusedVariables false


theorem recorded_spec (ab k tot : Nat) (s : SA) (e : Ev) (h : s.ok k tot) (hb : s.brok.length ≤ 20) (hkb : k ≤ 1000000) :
    Con Try.prog 27 #[ptr ab, .agg e.row.toArray] (AuB ab s) (ActR ab s k tot (recordedF s.pure e)) := by
  have hE : ∀ x ∈ s.ends, x.ok ∧ x.evs.length ≤ 2000000 := fun x hx => ⟨(h.oe x hx).1, by have := (h.oe x hx).2; omega⟩
  cases hk : jobAt s.jobs e.job with
  | none =>
    have hse : settledA (s.jobs.map JR.j) e.job = false := by unfold settledA; rw [jobAt_map, hk]; rfl
    have hh : heldA (s.jobs.map JR.j) e = none := by unfold heldA; rw [jobAt_map, hk]; rfl
    rw [show recordedF s.pure e = (s.pure, brk 1 false ++ (brk 4 true ++ realL (s.ends.map EN.pure) e 0 false)) from by unfold recordedF; rw [pure_held, hh, show settledA s.pure.jobs e.job = false from hse, jobAt_pure, hk]; rfl]
    obtain ⟨jobs, ja, jc, JG, r, chunks, pieces, ends, brok, ba, bc, BG⟩ := s
    obtain ⟨oj, ojs, oe, ob, few, s0, s1⟩ := h
    dsimp only [ActR, AuB, SA.pure] at *
    refine Con.intro (vs := [_, _]) Try.func27 rfl Try.ntmps27 rfl (fun B => ?_)
    repeat' (first | refine Cd.seq ?_ | refine Cd.reg ?_ | refine Ops.box rfl rfl rfl rfl (noPd rfl) (fun b => ?_))
    refine Cd.draw [(0, 0, []), (1, 1, []), (3, 0, []), (4, 0, []), (5, 1, []), (2, 2, [5]), (6, 2, []), (7, 0, []), (8, 0, [])] (by kernel_rfl) (by kernel_rfl) (by simp only [picked, nth]; exact rfl) ?_
    repeat' (first | refine Ops.mv rfl rfl rfl rfl ?_ | refine Ops.fa0 rfl rfl rfl rfl ?_ | refine Ops.ld1 rfl rfl rfl rfl rfl ?_ | refine Ops.ldN rfl rfl rfl rfl ?_)
    refine Ops.call (held_no ab ja jc r (.slice ba brok.length bc) jobs JG e oj (by omega) hh) rfl (by first | exact noPd rfl | (intro v A' hR i hi; obtain ⟨A2, hR, rfl⟩ := hR; (try obtain ⟨rfl, rfl⟩ := hR); (repeat (rcases List.mem_cons.1 hi with rfl | hi; · (first | exact Still.ld1 rfl rfl rfl rfl rfl | exact Still.ldN rfl rfl rfl rfl | exact Still.len rfl rfl rfl rfl rfl | exact Still.skip rfl rfl rfl | exact Still.ldRow1 rfl rfl rfl (by assumption) (by assumption) rfl rfl | exact Still.ldR rfl rfl rfl (by apply_assumption) rfl))); cases hi)) rfl rfl rfl (fun v A' hR => ?_)
    obtain ⟨rfl, rfl⟩ := hR
    skip
    refine Ops.call (known_no ab ja jobs.length jc r (.slice ba brok.length bc) e.job (jobAt_none hk)) rfl (noPd rfl) rfl rfl rfl (fun v A' hR => ?_)
    obtain ⟨rfl, rfl⟩ := hR
    repeat' (first | refine Cd.seq ?_ | refine Cd.reg ?_ | refine Ops.nil ?_ | refine Ops.mv rfl rfl rfl rfl ?_ | refine Ops.asg rfl rfl rfl rfl ?_ | refine Ops.fa0 rfl rfl rfl rfl ?_ | refine Ops.ld1 rfl rfl rfl rfl rfl ?_)
    refine Ops.call (settled_spec ab ja jc r (.slice ba brok.length bc) jobs JG e.job oj (by omega)) rfl (noPd rfl) rfl rfl rfl (fun v A' hR => ?_)
    obtain ⟨rfl, rfl⟩ := hR
    rw [show settledA (jobs.map JR.j) e.job = false from hse]
    repeat' (first | refine Cd.seq ?_ | refine Cd.reg ?_ | refine Ops.mv rfl rfl rfl rfl ?_ | refine Ops.asg rfl rfl rfl rfl ?_)
    refine Ops.call (breaks_spec ab ja jobs.length jc r ba bc (brok) BG 1 false ob (by omega)) rfl (noPd rfl) rfl rfl rfl (fun v A' hR => ?_)
    obtain ⟨ba2, bc2, BG2, rfl, hB2⟩ := hR
    repeat' (first | refine Cd.seq ?_ | refine Cd.reg ?_ | refine Ops.mv rfl rfl rfl rfl ?_ | refine Ops.bin rfl rfl rfl rfl rfl ?_ | refine Ops.un rfl rfl rfl rfl ?_ | refine Ops.pickT rfl rfl rfl rfl rfl ?_)
    refine Ops.call (breaks_spec ab ja jobs.length jc r ba2 bc2 (brok ++ brk 1 false) BG2 4 true hB2 (by have := brk_len 1 false; rw [List.length_append]; omega)) rfl (noPd rfl) rfl rfl rfl (fun v A' hR => ?_)
    obtain ⟨ba3, bc3, BG3, rfl, hB3⟩ := hR
    rw [List.append_assoc] at hB3 ⊢
    repeat' (first | refine Cd.seq ?_ | refine Cd.reg ?_ | refine Ops.nil ?_ | refine Ops.mv rfl rfl rfl rfl ?_ | refine Ops.ldN rfl rfl rfl rfl ?_ | refine Ops.bin rfl rfl rfl rfl rfl ?_ | refine Cd.condT rfl rfl ?_)
    refine Ops.call (real_spec ab ja jobs.length jc r ba3 bc3 (brok ++ (brk 1 false ++ brk 4 true)) BG3 ends e 0 false hB3 (by have := brk_len 1 false; have := brk_len 4 true; simp only [List.length_append]; omega) hE) rfl (noPd rfl) rfl rfl rfl (fun v A' hR => ?_)
    obtain ⟨ba4, bc4, BG4, rfl, hB4⟩ := hR
    rw [List.append_assoc, List.append_assoc] at hB4 ⊢
    repeat' (first | refine Cd.seq ?_ | refine Cd.reg ?_ | refine Ops.nil ?_ | refine Ops.mv rfl rfl rfl rfl ?_ | refine Ops.bin rfl rfl rfl rfl rfl ?_ | refine Cd.condF rfl rfl ?_)
    exact Cd.skip (end0 (A' := AuL ab ja jobs.length jc r (.slice ba4 (brok ++ (brk 1 false ++ (brk 4 true ++ realL (ends.map EN.pure) e 0 false))).length bc4) JG (jobs.flatMap JR.G) chunks pieces (eents ends) (ends.flatMap EN.G) BG4) rfl (fun _ h => h.split)
      ⟨⟨jobs, ja, jc, JG, r, chunks, pieces, ends, _, ba4, bc4, BG4⟩, rfl, ⟨oj, ojs, oe, hB4, few, s0, s1⟩, rfl, rfl, rfl, rfl, rfl, rfl⟩)
  | some x =>
    by_cases hst : x.j.status = 2
    · by_cases hbd : x.j.badge = e.badge
      · have hse : settledA (s.jobs.map JR.j) e.job = false := by unfold settledA; rw [jobAt_map, hk]; simp [hst]
        rw [show recordedF s.pure e = ({ s.pure with jobs := jobSet s.pure.jobs e.job { x.j with status := 3, rcode := e.rcode, rbits := e.rbits } }, brk 1 false ++ (brk 4 false ++ realL (s.ends.map EN.pure) e x.j.log.length true)) from by unfold recordedF; rw [held_is hk hst hbd, show settledA s.pure.jobs e.job = false from hse, jobAt_pure, hk]; rfl]
        obtain ⟨jobs, ja, jc, JG, r, chunks, pieces, ends, brok, ba, bc, BG⟩ := s
        obtain ⟨oj, ojs, oe, ob, few, s0, s1⟩ := h
        dsimp only [ActR, AuB, SA.pure] at *
        obtain ⟨hr, hx⟩ := jobAt_some hk
        have hlt := (List.getElem?_eq_some_iff.1 hx).1
        obtain ⟨g, spare, rfl, _, rfl, hsp, hle⟩ := oj.some_ (by omega)
        have hok := jr_ok jobs
        have hrow : (jobs.map JR.row)[(e.job - 1).toNat]? = some x.row := by rw [List.getElem?_map, hx]; rfl
        have hp := flat_out (f := JR.G) hx
        refine Con.permIn (A := AuL ab (some ⟨g, 0, none⟩) jobs.length jc r (.slice ba brok.length bc) [(g, cl ((jobs.map JR.row).flatten ++ spare) 80)] (x.G ++ (jobs.eraseIdx (e.job - 1).toNat).flatMap JR.G) chunks pieces (eents ends) (ends.flatMap EN.G) BG) ?_ (AuL.perm hp)
        refine Con.intro (vs := [_, _]) Try.func27 rfl Try.ntmps27 rfl (fun B => ?_)
        repeat' (first | refine Cd.seq ?_ | refine Cd.reg ?_ | refine Ops.box rfl rfl rfl rfl (noPd rfl) (fun b => ?_))
        refine Cd.draw [(0, 0, []), (1, 1, []), (3, 0, []), (4, 0, []), (5, 1, []), (2, 2, [5]), (6, 2, []), (7, 0, []), (8, 0, [])] (by kernel_rfl) (by kernel_rfl) (by simp only [picked, nth]; exact rfl) ?_
        repeat' (first | refine Ops.mv rfl rfl rfl rfl ?_ | refine Ops.fa0 rfl rfl rfl rfl ?_ | refine Ops.ld1 rfl rfl rfl rfl rfl ?_ | refine Ops.ldN rfl rfl rfl rfl ?_)
        refine Ops.call (held_yes ab g jc r (.slice ba brok.length bc) jobs spare e x (by omega) hk hst hbd) rfl (by first | exact noPd rfl | (intro v A' hR i hi; obtain ⟨A2, hR, rfl⟩ := hR; (try obtain ⟨rfl, rfl⟩ := hR); (repeat (rcases List.mem_cons.1 hi with rfl | hi; · (first | exact Still.ld1 rfl rfl rfl rfl rfl | exact Still.ldN rfl rfl rfl rfl | exact Still.len rfl rfl rfl rfl rfl | exact Still.skip rfl rfl rfl | exact Still.ldRow1 rfl rfl rfl (by assumption) (by assumption) rfl rfl | exact Still.ldR rfl rfl rfl (by apply_assumption) rfl))); cases hi)) rfl rfl rfl (fun v A' hR => ?_)
        obtain ⟨rfl, rfl⟩ := hR
        skip
        refine Ops.call (known_yes ab g jobs.length jc r (.slice ba brok.length bc) e.job hr (by omega)) rfl (noPd rfl) rfl rfl rfl (fun v A' hR => ?_)
        obtain ⟨rfl, rfl⟩ := hR
        repeat' (first | refine Cd.seq ?_ | refine Cd.reg ?_ | refine Ops.nil ?_ | refine Ops.mv rfl rfl rfl rfl ?_ | refine Ops.asg rfl rfl rfl rfl ?_ | refine Ops.fa0 rfl rfl rfl rfl ?_ | refine Ops.ld1 rfl rfl rfl rfl rfl ?_)
        refine Ops.call (settled_spec ab (some ⟨g, 0, none⟩) jc r (.slice ba brok.length bc) jobs [(g, cl ((jobs.map JR.row).flatten ++ spare) 80)] e.job oj (by omega)) rfl (noPd rfl) rfl rfl rfl (fun v A' hR => ?_)
        obtain ⟨rfl, rfl⟩ := hR
        rw [show settledA (jobs.map JR.j) e.job = false from hse]
        repeat' (first | refine Cd.seq ?_ | refine Cd.reg ?_ | refine Ops.mv rfl rfl rfl rfl ?_ | refine Ops.asg rfl rfl rfl rfl ?_)
        refine Ops.call (breaks_spec ab (some ⟨g, 0, none⟩) jobs.length jc r ba bc (brok) BG 1 false ob (by omega)) rfl (noPd rfl) rfl rfl rfl (fun v A' hR => ?_)
        obtain ⟨ba2, bc2, BG2, rfl, hB2⟩ := hR
        repeat' (first | refine Cd.seq ?_ | refine Cd.reg ?_ | refine Ops.mv rfl rfl rfl rfl ?_ | refine Ops.bin rfl rfl rfl rfl rfl ?_ | refine Ops.un rfl rfl rfl rfl ?_ | refine Ops.pickT rfl rfl rfl rfl rfl ?_)
        refine Ops.call (breaks_spec ab (some ⟨g, 0, none⟩) jobs.length jc r ba2 bc2 (brok ++ brk 1 false) BG2 4 false hB2 (by have := brk_len 1 false; rw [List.length_append]; omega)) rfl (noPd rfl) rfl rfl rfl (fun v A' hR => ?_)
        obtain ⟨ba3, bc3, BG3, rfl, hB3⟩ := hR
        rw [List.append_assoc] at hB3 ⊢
        repeat' (first | refine Cd.seq ?_ | refine Cd.reg ?_ | refine Ops.nil ?_ | refine Ops.mv rfl rfl rfl rfl ?_ | refine Ops.bin rfl rfl rfl rfl rfl ?_ | refine Cd.condF rfl rfl ?_)
        refine Cd.draw [(0, 0, []), (1, 1, []), (2, 0, []), (3, 0, []), (4, 0, []), (5, 1, []), (6, 1, []), (7, 2, [])] (by kernel_rfl) (by kernel_rfl) (by simp only [picked, nth]; exact rfl) ?_
        repeat' (first | refine Ops.mv rfl rfl rfl rfl ?_ | refine Ops.nilP rfl rfl rfl rfl ?_ | refine Ops.fa rfl rfl rfl rfl ?_ | refine Ops.ldN rfl rfl rfl rfl ?_ | refine Ops.lenS rfl rfl rfl rfl ?_ | refine Ops.ldRow1 rfl rfl rfl (by assumption) (by assumption) rfl rfl ?_)
        refine Ops.call (real_spec ab (some ⟨g, 0, none⟩) jobs.length jc r ba3 bc3 (brok ++ (brk 1 false ++ brk 4 false)) BG3 ends e x.j.log.length true hB3 (by have := brk_len 1 false; have := brk_len 4 false; simp only [List.length_append]; omega) hE) rfl (noPd rfl) rfl rfl rfl (fun v A' hR => ?_)
        obtain ⟨ba4, bc4, BG4, rfl, hB4⟩ := hR
        rw [List.append_assoc, List.append_assoc] at hB4 ⊢
        repeat' (first | refine Cd.seq ?_ | refine Cd.reg ?_ | refine Ops.nil ?_ | refine Ops.mv rfl rfl rfl rfl ?_ | refine Ops.bin rfl rfl rfl rfl rfl ?_ | refine Cd.condT rfl rfl ?_)
        refine Cd.draw [(0, 0, []), (1, 0, []), (2, 0, []), (3, 1, []), (4, 0, []), (5, 0, []), (6, 2, [3]), (7, 0, []), (8, 0, []), (9, 2, [])] (by kernel_rfl) (by kernel_rfl) (by simp only [picked, nth]; exact rfl) ?_
        repeat' (first | refine Ops.mv rfl rfl rfl rfl ?_ | refine Ops.nilP rfl rfl rfl rfl ?_ | refine Ops.fa0 rfl rfl rfl rfl ?_ | refine Ops.fa rfl rfl rfl rfl ?_ | refine Ops.ldN rfl rfl rfl rfl ?_)
        refine Ops.stRow1 rfl rfl rfl rfl rfl hok hrow rfl (by first | exact noPd rfl | (intro v A' hR i hi; obtain rfl := hR; (repeat (rcases List.mem_cons.1 hi with rfl | hi; · (first | exact Still.ld1 rfl rfl rfl rfl rfl | exact Still.ldN rfl rfl rfl rfl | exact Still.len rfl rfl rfl rfl rfl | exact Still.skip rfl rfl rfl | exact Still.ldRow1 rfl rfl rfl (by assumption) (by assumption) rfl rfl | exact Still.ldR rfl rfl rfl (by apply_assumption) rfl))); cases hi)) ?_
        repeat' (first | refine Ops.nilP rfl rfl rfl rfl ?_ | refine Ops.fa rfl rfl rfl rfl ?_)
        refine Ops.stRowN rfl rfl rfl rfl rfl rfl (hok.set rfl rfl) (show ((jobs.map JR.row).set (e.job - 1).toNat (x.row.set 0 (.int .i64 3)))[(e.job - 1).toNat]? = some [.int .i64 3, .int .i64 x.j.badge, .int .i64 x.j.rcode, .int .u64 x.j.rbits, .slice x.la x.j.log.length x.lc] from List.getElem?_set_self (by rw [List.length_map]; exact hlt)) (noPd rfl) ?_
        rw [List.set_set]
        exact Ops.nilN (end0 (A' := AuB ab (setS jobs (e.job - 1).toNat ⟨{ x.j with status := 3, rcode := e.rcode, rbits := e.rbits }, x.la, x.lc, x.G⟩ g jc spare r chunks pieces ends (brok ++ (brk 1 false ++ (brk 4 false ++ realL (ends.map EN.pure) e x.j.log.length true))) ba4 bc4 BG4)) rfl (fun w h => set_sat (⟨{ x.j with status := 3, rcode := e.rcode, rbits := e.rbits }, x.la, x.lc, x.G⟩ : JR) [.int .i64 3, .int .i64 x.j.badge, .int .i64 e.rcode, .int .u64 e.rbits, .slice x.la x.j.log.length x.lc] (x.G ++ (jobs.eraseIdx (e.job - 1).toNat).flatMap JR.G) rfl rfl hlt h.split)
          ⟨_, rfl, set_ok oj hsp hle ojs oe hB4 few s0 s1 (ojs x (List.mem_of_getElem? hx)), by unfold SA.pure; dsimp only; rw [set_jobs _ hk], rfl, rfl, rfl, rfl, rfl⟩)
      · have hse : settledA (s.jobs.map JR.j) e.job = false := by unfold settledA; rw [jobAt_map, hk]; simp [hst]
        have hh : heldA (s.jobs.map JR.j) e = none := by unfold heldA; rw [jobAt_map, hk]; exact if_neg (fun h => hbd h.2)
        rw [show recordedF s.pure e = (s.pure, brk 1 false ++ (brk 4 true ++ realL (s.ends.map EN.pure) e x.j.log.length true)) from by unfold recordedF; rw [pure_held, hh, show settledA s.pure.jobs e.job = false from hse, jobAt_pure, hk]; rfl]
        obtain ⟨jobs, ja, jc, JG, r, chunks, pieces, ends, brok, ba, bc, BG⟩ := s
        obtain ⟨oj, ojs, oe, ob, few, s0, s1⟩ := h
        dsimp only [ActR, AuB, SA.pure] at *
        obtain ⟨hr, hx⟩ := jobAt_some hk
        have hlt := (List.getElem?_eq_some_iff.1 hx).1
        obtain ⟨g, spare, rfl, _, rfl, hsp, hle⟩ := oj.some_ (by omega)
        have hok := jr_ok jobs
        have hrow : (jobs.map JR.row)[(e.job - 1).toNat]? = some x.row := by rw [List.getElem?_map, hx]; rfl
        refine Con.intro (vs := [_, _]) Try.func27 rfl Try.ntmps27 rfl (fun B => ?_)
        repeat' (first | refine Cd.seq ?_ | refine Cd.reg ?_ | refine Ops.box rfl rfl rfl rfl (noPd rfl) (fun b => ?_))
        refine Cd.draw [(0, 0, []), (1, 1, []), (3, 0, []), (4, 0, []), (5, 1, []), (2, 2, [5]), (6, 2, []), (7, 0, []), (8, 0, [])] (by kernel_rfl) (by kernel_rfl) (by simp only [picked, nth]; exact rfl) ?_
        repeat' (first | refine Ops.mv rfl rfl rfl rfl ?_ | refine Ops.fa0 rfl rfl rfl rfl ?_ | refine Ops.ld1 rfl rfl rfl rfl rfl ?_ | refine Ops.ldN rfl rfl rfl rfl ?_)
        refine Ops.call (held_no ab (some ⟨g, 0, none⟩) jc r (.slice ba brok.length bc) jobs [(g, cl ((jobs.map JR.row).flatten ++ spare) 80)] e oj (by omega) hh) rfl (by first | exact noPd rfl | (intro v A' hR i hi; obtain ⟨A2, hR, rfl⟩ := hR; (try obtain ⟨rfl, rfl⟩ := hR); (repeat (rcases List.mem_cons.1 hi with rfl | hi; · (first | exact Still.ld1 rfl rfl rfl rfl rfl | exact Still.ldN rfl rfl rfl rfl | exact Still.len rfl rfl rfl rfl rfl | exact Still.skip rfl rfl rfl | exact Still.ldRow1 rfl rfl rfl (by assumption) (by assumption) rfl rfl | exact Still.ldR rfl rfl rfl (by apply_assumption) rfl))); cases hi)) rfl rfl rfl (fun v A' hR => ?_)
        obtain ⟨rfl, rfl⟩ := hR
        skip
        refine Ops.call (known_yes ab g jobs.length jc r (.slice ba brok.length bc) e.job hr (by omega)) rfl (noPd rfl) rfl rfl rfl (fun v A' hR => ?_)
        obtain ⟨rfl, rfl⟩ := hR
        repeat' (first | refine Cd.seq ?_ | refine Cd.reg ?_ | refine Ops.nil ?_ | refine Ops.mv rfl rfl rfl rfl ?_ | refine Ops.asg rfl rfl rfl rfl ?_ | refine Ops.fa0 rfl rfl rfl rfl ?_ | refine Ops.ld1 rfl rfl rfl rfl rfl ?_)
        refine Ops.call (settled_spec ab (some ⟨g, 0, none⟩) jc r (.slice ba brok.length bc) jobs [(g, cl ((jobs.map JR.row).flatten ++ spare) 80)] e.job oj (by omega)) rfl (noPd rfl) rfl rfl rfl (fun v A' hR => ?_)
        obtain ⟨rfl, rfl⟩ := hR
        rw [show settledA (jobs.map JR.j) e.job = false from hse]
        repeat' (first | refine Cd.seq ?_ | refine Cd.reg ?_ | refine Ops.mv rfl rfl rfl rfl ?_ | refine Ops.asg rfl rfl rfl rfl ?_)
        refine Ops.call (breaks_spec ab (some ⟨g, 0, none⟩) jobs.length jc r ba bc (brok) BG 1 false ob (by omega)) rfl (noPd rfl) rfl rfl rfl (fun v A' hR => ?_)
        obtain ⟨ba2, bc2, BG2, rfl, hB2⟩ := hR
        repeat' (first | refine Cd.seq ?_ | refine Cd.reg ?_ | refine Ops.mv rfl rfl rfl rfl ?_ | refine Ops.bin rfl rfl rfl rfl rfl ?_ | refine Ops.un rfl rfl rfl rfl ?_ | refine Ops.pickT rfl rfl rfl rfl rfl ?_)
        refine Ops.call (breaks_spec ab (some ⟨g, 0, none⟩) jobs.length jc r ba2 bc2 (brok ++ brk 1 false) BG2 4 true hB2 (by have := brk_len 1 false; rw [List.length_append]; omega)) rfl (noPd rfl) rfl rfl rfl (fun v A' hR => ?_)
        obtain ⟨ba3, bc3, BG3, rfl, hB3⟩ := hR
        rw [List.append_assoc] at hB3 ⊢
        repeat' (first | refine Cd.seq ?_ | refine Cd.reg ?_ | refine Ops.nil ?_ | refine Ops.mv rfl rfl rfl rfl ?_ | refine Ops.bin rfl rfl rfl rfl rfl ?_ | refine Cd.condF rfl rfl ?_)
        refine Cd.draw [(0, 0, []), (1, 1, []), (2, 0, []), (3, 0, []), (4, 0, []), (5, 1, []), (6, 1, []), (7, 2, [])] (by kernel_rfl) (by kernel_rfl) (by simp only [picked, nth]; exact rfl) ?_
        repeat' (first | refine Ops.mv rfl rfl rfl rfl ?_ | refine Ops.nilP rfl rfl rfl rfl ?_ | refine Ops.fa rfl rfl rfl rfl ?_ | refine Ops.ldN rfl rfl rfl rfl ?_ | refine Ops.lenS rfl rfl rfl rfl ?_ | refine Ops.ldRow1 rfl rfl rfl (by assumption) (by assumption) rfl rfl ?_)
        refine Ops.call (real_spec ab (some ⟨g, 0, none⟩) jobs.length jc r ba3 bc3 (brok ++ (brk 1 false ++ brk 4 true)) BG3 ends e x.j.log.length true hB3 (by have := brk_len 1 false; have := brk_len 4 true; simp only [List.length_append]; omega) hE) rfl (noPd rfl) rfl rfl rfl (fun v A' hR => ?_)
        obtain ⟨ba4, bc4, BG4, rfl, hB4⟩ := hR
        rw [List.append_assoc, List.append_assoc] at hB4 ⊢
        repeat' (first | refine Cd.seq ?_ | refine Cd.reg ?_ | refine Ops.nil ?_ | refine Ops.mv rfl rfl rfl rfl ?_ | refine Ops.bin rfl rfl rfl rfl rfl ?_ | refine Cd.condF rfl rfl ?_)
        exact Cd.skip (end0 (A' := AuL ab (some ⟨g, 0, none⟩) jobs.length jc r (.slice ba4 (brok ++ (brk 1 false ++ (brk 4 true ++ realL (ends.map EN.pure) e x.j.log.length true))).length bc4) [(g, cl ((jobs.map JR.row).flatten ++ spare) 80)] (jobs.flatMap JR.G) chunks pieces (eents ends) (ends.flatMap EN.G) BG4) rfl (fun _ h => h.split)
          ⟨⟨jobs, (some ⟨g, 0, none⟩), jc, [(g, cl ((jobs.map JR.row).flatten ++ spare) 80)], r, chunks, pieces, ends, _, ba4, bc4, BG4⟩, rfl, ⟨oj, ojs, oe, hB4, few, s0, s1⟩, rfl, rfl, rfl, rfl, rfl, rfl⟩)
    · have hh : heldA (s.jobs.map JR.j) e = none := by unfold heldA; rw [jobAt_map, hk]; exact if_neg (fun h => hst h.1)
      cases hse : settledA (s.jobs.map JR.j) e.job with
      | false =>
        rw [show recordedF s.pure e = (s.pure, brk 1 false ++ (brk 4 true ++ realL (s.ends.map EN.pure) e x.j.log.length true)) from by unfold recordedF; rw [pure_held, hh, show settledA s.pure.jobs e.job = false from hse, jobAt_pure, hk]; rfl]
        obtain ⟨jobs, ja, jc, JG, r, chunks, pieces, ends, brok, ba, bc, BG⟩ := s
        obtain ⟨oj, ojs, oe, ob, few, s0, s1⟩ := h
        dsimp only [ActR, AuB, SA.pure] at *
        obtain ⟨hr, hx⟩ := jobAt_some hk
        have hlt := (List.getElem?_eq_some_iff.1 hx).1
        obtain ⟨g, spare, rfl, _, rfl, hsp, hle⟩ := oj.some_ (by omega)
        have hok := jr_ok jobs
        have hrow : (jobs.map JR.row)[(e.job - 1).toNat]? = some x.row := by rw [List.getElem?_map, hx]; rfl
        refine Con.intro (vs := [_, _]) Try.func27 rfl Try.ntmps27 rfl (fun B => ?_)
        repeat' (first | refine Cd.seq ?_ | refine Cd.reg ?_ | refine Ops.box rfl rfl rfl rfl (noPd rfl) (fun b => ?_))
        refine Cd.draw [(0, 0, []), (1, 1, []), (3, 0, []), (4, 0, []), (5, 1, []), (2, 2, [5]), (6, 2, []), (7, 0, []), (8, 0, [])] (by kernel_rfl) (by kernel_rfl) (by simp only [picked, nth]; exact rfl) ?_
        repeat' (first | refine Ops.mv rfl rfl rfl rfl ?_ | refine Ops.fa0 rfl rfl rfl rfl ?_ | refine Ops.ld1 rfl rfl rfl rfl rfl ?_ | refine Ops.ldN rfl rfl rfl rfl ?_)
        refine Ops.call (held_no ab (some ⟨g, 0, none⟩) jc r (.slice ba brok.length bc) jobs [(g, cl ((jobs.map JR.row).flatten ++ spare) 80)] e oj (by omega) hh) rfl (by first | exact noPd rfl | (intro v A' hR i hi; obtain ⟨A2, hR, rfl⟩ := hR; (try obtain ⟨rfl, rfl⟩ := hR); (repeat (rcases List.mem_cons.1 hi with rfl | hi; · (first | exact Still.ld1 rfl rfl rfl rfl rfl | exact Still.ldN rfl rfl rfl rfl | exact Still.len rfl rfl rfl rfl rfl | exact Still.skip rfl rfl rfl | exact Still.ldRow1 rfl rfl rfl (by assumption) (by assumption) rfl rfl | exact Still.ldR rfl rfl rfl (by apply_assumption) rfl))); cases hi)) rfl rfl rfl (fun v A' hR => ?_)
        obtain ⟨rfl, rfl⟩ := hR
        skip
        refine Ops.call (known_yes ab g jobs.length jc r (.slice ba brok.length bc) e.job hr (by omega)) rfl (noPd rfl) rfl rfl rfl (fun v A' hR => ?_)
        obtain ⟨rfl, rfl⟩ := hR
        repeat' (first | refine Cd.seq ?_ | refine Cd.reg ?_ | refine Ops.nil ?_ | refine Ops.mv rfl rfl rfl rfl ?_ | refine Ops.asg rfl rfl rfl rfl ?_ | refine Ops.fa0 rfl rfl rfl rfl ?_ | refine Ops.ld1 rfl rfl rfl rfl rfl ?_)
        refine Ops.call (settled_spec ab (some ⟨g, 0, none⟩) jc r (.slice ba brok.length bc) jobs [(g, cl ((jobs.map JR.row).flatten ++ spare) 80)] e.job oj (by omega)) rfl (noPd rfl) rfl rfl rfl (fun v A' hR => ?_)
        obtain ⟨rfl, rfl⟩ := hR
        rw [show settledA (jobs.map JR.j) e.job = false from hse]
        repeat' (first | refine Cd.seq ?_ | refine Cd.reg ?_ | refine Ops.mv rfl rfl rfl rfl ?_ | refine Ops.asg rfl rfl rfl rfl ?_)
        refine Ops.call (breaks_spec ab (some ⟨g, 0, none⟩) jobs.length jc r ba bc (brok) BG 1 false ob (by omega)) rfl (noPd rfl) rfl rfl rfl (fun v A' hR => ?_)
        obtain ⟨ba2, bc2, BG2, rfl, hB2⟩ := hR
        repeat' (first | refine Cd.seq ?_ | refine Cd.reg ?_ | refine Ops.mv rfl rfl rfl rfl ?_ | refine Ops.bin rfl rfl rfl rfl rfl ?_ | refine Ops.un rfl rfl rfl rfl ?_ | refine Ops.pickT rfl rfl rfl rfl rfl ?_)
        refine Ops.call (breaks_spec ab (some ⟨g, 0, none⟩) jobs.length jc r ba2 bc2 (brok ++ brk 1 false) BG2 4 true hB2 (by have := brk_len 1 false; rw [List.length_append]; omega)) rfl (noPd rfl) rfl rfl rfl (fun v A' hR => ?_)
        obtain ⟨ba3, bc3, BG3, rfl, hB3⟩ := hR
        rw [List.append_assoc] at hB3 ⊢
        repeat' (first | refine Cd.seq ?_ | refine Cd.reg ?_ | refine Ops.nil ?_ | refine Ops.mv rfl rfl rfl rfl ?_ | refine Ops.bin rfl rfl rfl rfl rfl ?_ | refine Cd.condF rfl rfl ?_)
        refine Cd.draw [(0, 0, []), (1, 1, []), (2, 0, []), (3, 0, []), (4, 0, []), (5, 1, []), (6, 1, []), (7, 2, [])] (by kernel_rfl) (by kernel_rfl) (by simp only [picked, nth]; exact rfl) ?_
        repeat' (first | refine Ops.mv rfl rfl rfl rfl ?_ | refine Ops.nilP rfl rfl rfl rfl ?_ | refine Ops.fa rfl rfl rfl rfl ?_ | refine Ops.ldN rfl rfl rfl rfl ?_ | refine Ops.lenS rfl rfl rfl rfl ?_ | refine Ops.ldRow1 rfl rfl rfl (by assumption) (by assumption) rfl rfl ?_)
        refine Ops.call (real_spec ab (some ⟨g, 0, none⟩) jobs.length jc r ba3 bc3 (brok ++ (brk 1 false ++ brk 4 true)) BG3 ends e x.j.log.length true hB3 (by have := brk_len 1 false; have := brk_len 4 true; simp only [List.length_append]; omega) hE) rfl (noPd rfl) rfl rfl rfl (fun v A' hR => ?_)
        obtain ⟨ba4, bc4, BG4, rfl, hB4⟩ := hR
        rw [List.append_assoc, List.append_assoc] at hB4 ⊢
        repeat' (first | refine Cd.seq ?_ | refine Cd.reg ?_ | refine Ops.nil ?_ | refine Ops.mv rfl rfl rfl rfl ?_ | refine Ops.bin rfl rfl rfl rfl rfl ?_ | refine Cd.condF rfl rfl ?_)
        exact Cd.skip (end0 (A' := AuL ab (some ⟨g, 0, none⟩) jobs.length jc r (.slice ba4 (brok ++ (brk 1 false ++ (brk 4 true ++ realL (ends.map EN.pure) e x.j.log.length true))).length bc4) [(g, cl ((jobs.map JR.row).flatten ++ spare) 80)] (jobs.flatMap JR.G) chunks pieces (eents ends) (ends.flatMap EN.G) BG4) rfl (fun _ h => h.split)
          ⟨⟨jobs, (some ⟨g, 0, none⟩), jc, [(g, cl ((jobs.map JR.row).flatten ++ spare) 80)], r, chunks, pieces, ends, _, ba4, bc4, BG4⟩, rfl, ⟨oj, ojs, oe, hB4, few, s0, s1⟩, rfl, rfl, rfl, rfl, rfl, rfl⟩)
      | true =>
        rw [show recordedF s.pure e = (s.pure, brk 1 true ++ (brk 4 false ++ realL (s.ends.map EN.pure) e x.j.log.length true)) from by unfold recordedF; rw [pure_held, hh, show settledA s.pure.jobs e.job = true from hse, jobAt_pure, hk]; rfl]
        obtain ⟨jobs, ja, jc, JG, r, chunks, pieces, ends, brok, ba, bc, BG⟩ := s
        obtain ⟨oj, ojs, oe, ob, few, s0, s1⟩ := h
        dsimp only [ActR, AuB, SA.pure] at *
        obtain ⟨hr, hx⟩ := jobAt_some hk
        have hlt := (List.getElem?_eq_some_iff.1 hx).1
        obtain ⟨g, spare, rfl, _, rfl, hsp, hle⟩ := oj.some_ (by omega)
        have hok := jr_ok jobs
        have hrow : (jobs.map JR.row)[(e.job - 1).toNat]? = some x.row := by rw [List.getElem?_map, hx]; rfl
        refine Con.intro (vs := [_, _]) Try.func27 rfl Try.ntmps27 rfl (fun B => ?_)
        repeat' (first | refine Cd.seq ?_ | refine Cd.reg ?_ | refine Ops.box rfl rfl rfl rfl (noPd rfl) (fun b => ?_))
        refine Cd.draw [(0, 0, []), (1, 1, []), (3, 0, []), (4, 0, []), (5, 1, []), (2, 2, [5]), (6, 2, []), (7, 0, []), (8, 0, [])] (by kernel_rfl) (by kernel_rfl) (by simp only [picked, nth]; exact rfl) ?_
        repeat' (first | refine Ops.mv rfl rfl rfl rfl ?_ | refine Ops.fa0 rfl rfl rfl rfl ?_ | refine Ops.ld1 rfl rfl rfl rfl rfl ?_ | refine Ops.ldN rfl rfl rfl rfl ?_)
        refine Ops.call (held_no ab (some ⟨g, 0, none⟩) jc r (.slice ba brok.length bc) jobs [(g, cl ((jobs.map JR.row).flatten ++ spare) 80)] e oj (by omega) hh) rfl (by first | exact noPd rfl | (intro v A' hR i hi; obtain ⟨A2, hR, rfl⟩ := hR; (try obtain ⟨rfl, rfl⟩ := hR); (repeat (rcases List.mem_cons.1 hi with rfl | hi; · (first | exact Still.ld1 rfl rfl rfl rfl rfl | exact Still.ldN rfl rfl rfl rfl | exact Still.len rfl rfl rfl rfl rfl | exact Still.skip rfl rfl rfl | exact Still.ldRow1 rfl rfl rfl (by assumption) (by assumption) rfl rfl | exact Still.ldR rfl rfl rfl (by apply_assumption) rfl))); cases hi)) rfl rfl rfl (fun v A' hR => ?_)
        obtain ⟨rfl, rfl⟩ := hR
        skip
        refine Ops.call (known_yes ab g jobs.length jc r (.slice ba brok.length bc) e.job hr (by omega)) rfl (noPd rfl) rfl rfl rfl (fun v A' hR => ?_)
        obtain ⟨rfl, rfl⟩ := hR
        repeat' (first | refine Cd.seq ?_ | refine Cd.reg ?_ | refine Ops.nil ?_ | refine Ops.mv rfl rfl rfl rfl ?_ | refine Ops.asg rfl rfl rfl rfl ?_ | refine Ops.fa0 rfl rfl rfl rfl ?_ | refine Ops.ld1 rfl rfl rfl rfl rfl ?_)
        refine Ops.call (settled_spec ab (some ⟨g, 0, none⟩) jc r (.slice ba brok.length bc) jobs [(g, cl ((jobs.map JR.row).flatten ++ spare) 80)] e.job oj (by omega)) rfl (noPd rfl) rfl rfl rfl (fun v A' hR => ?_)
        obtain ⟨rfl, rfl⟩ := hR
        rw [show settledA (jobs.map JR.j) e.job = true from hse]
        repeat' (first | refine Cd.seq ?_ | refine Cd.reg ?_ | refine Ops.mv rfl rfl rfl rfl ?_ | refine Ops.asg rfl rfl rfl rfl ?_)
        refine Ops.call (breaks_spec ab (some ⟨g, 0, none⟩) jobs.length jc r ba bc (brok) BG 1 true ob (by omega)) rfl (noPd rfl) rfl rfl rfl (fun v A' hR => ?_)
        obtain ⟨ba2, bc2, BG2, rfl, hB2⟩ := hR
        repeat' (first | refine Cd.seq ?_ | refine Cd.reg ?_ | refine Ops.mv rfl rfl rfl rfl ?_ | refine Ops.un rfl rfl rfl rfl ?_ | refine Ops.pickF rfl rfl rfl rfl rfl ?_ | refine Ops.gSkip rfl rfl rfl ?_)
        refine Ops.call (breaks_spec ab (some ⟨g, 0, none⟩) jobs.length jc r ba2 bc2 (brok ++ brk 1 true) BG2 4 false hB2 (by have := brk_len 1 true; rw [List.length_append]; omega)) rfl (noPd rfl) rfl rfl rfl (fun v A' hR => ?_)
        obtain ⟨ba3, bc3, BG3, rfl, hB3⟩ := hR
        rw [List.append_assoc] at hB3 ⊢
        repeat' (first | refine Cd.seq ?_ | refine Cd.reg ?_ | refine Ops.nil ?_ | refine Ops.mv rfl rfl rfl rfl ?_ | refine Ops.bin rfl rfl rfl rfl rfl ?_ | refine Cd.condF rfl rfl ?_)
        refine Cd.draw [(0, 0, []), (1, 1, []), (2, 0, []), (3, 0, []), (4, 0, []), (5, 1, []), (6, 1, []), (7, 2, [])] (by kernel_rfl) (by kernel_rfl) (by simp only [picked, nth]; exact rfl) ?_
        repeat' (first | refine Ops.mv rfl rfl rfl rfl ?_ | refine Ops.nilP rfl rfl rfl rfl ?_ | refine Ops.fa rfl rfl rfl rfl ?_ | refine Ops.ldN rfl rfl rfl rfl ?_ | refine Ops.lenS rfl rfl rfl rfl ?_ | refine Ops.ldRow1 rfl rfl rfl (by assumption) (by assumption) rfl rfl ?_)
        refine Ops.call (real_spec ab (some ⟨g, 0, none⟩) jobs.length jc r ba3 bc3 (brok ++ (brk 1 true ++ brk 4 false)) BG3 ends e x.j.log.length true hB3 (by have := brk_len 1 true; have := brk_len 4 false; simp only [List.length_append]; omega) hE) rfl (noPd rfl) rfl rfl rfl (fun v A' hR => ?_)
        obtain ⟨ba4, bc4, BG4, rfl, hB4⟩ := hR
        rw [List.append_assoc, List.append_assoc] at hB4 ⊢
        repeat' (first | refine Cd.seq ?_ | refine Cd.reg ?_ | refine Ops.nil ?_ | refine Ops.mv rfl rfl rfl rfl ?_ | refine Ops.bin rfl rfl rfl rfl rfl ?_ | refine Cd.condF rfl rfl ?_)
        exact Cd.skip (end0 (A' := AuL ab (some ⟨g, 0, none⟩) jobs.length jc r (.slice ba4 (brok ++ (brk 1 true ++ (brk 4 false ++ realL (ends.map EN.pure) e x.j.log.length true))).length bc4) [(g, cl ((jobs.map JR.row).flatten ++ spare) 80)] (jobs.flatMap JR.G) chunks pieces (eents ends) (ends.flatMap EN.G) BG4) rfl (fun _ h => h.split)
          ⟨⟨jobs, (some ⟨g, 0, none⟩), jc, [(g, cl ((jobs.map JR.row).flatten ++ spare) 80)], r, chunks, pieces, ends, _, ba4, bc4, BG4⟩, rfl, ⟨oj, ojs, oe, hB4, few, s0, s1⟩, rfl, rfl, rfl, rfl, rfl, rfl⟩)

theorem up_spec (ab k tot : Nat) (s : SA) (e : Ev) (h : s.ok k tot) :
    Con Try.prog 29 #[ptr ab, .agg e.row.toArray] (AuB ab s) (ActR ab s k tot (upF s.pure e)) := by
  by_cases hz : e.node = 0 ∧ e.life = 0
  · rw [show upF s.pure e = ({ s.pure with sh := true, shn := 0 }, []) from if_pos hz]
    obtain ⟨jobs, ja, jc, JG, r, chunks, pieces, ends, brok, ba, bc, BG⟩ := s
    obtain ⟨oj, ojs, oe, ob, few, s0, s1⟩ := h
    dsimp only [ActR, AuB, SA.pure] at *
    refine Con.intro (vs := [_, _]) Try.func29 rfl Try.ntmps29 rfl (fun B => ?_)
    repeat' (first | refine Cd.seq ?_ | refine Cd.reg ?_ | refine Ops.nil ?_ | refine Ops.mv rfl rfl rfl rfl ?_ | refine Ops.nilP rfl rfl rfl rfl ?_ | refine Ops.fa0 rfl rfl rfl rfl ?_ | refine Ops.ldN rfl rfl rfl rfl ?_ | refine Ops.bin rfl rfl rfl rfl rfl ?_ | refine Ops.bld rfl rfl rfl rfl ?_ | refine Ops.box rfl rfl rfl rfl (noPd rfl) (fun b => ?_) | refine Ops.st1 rfl rfl rfl rfl rfl (noPd rfl) ?_ | (refine Cd.cond rfl (fun hc => ?_) (fun hc => ?_) <;> (try simp only [decide_eq_true_eq, decide_eq_false_iff_not, Bool.not_eq_true', Bool.not_eq_false', Bool.not_eq_eq_eq_not, Bool.not_true, Bool.not_false, Int.not_lt, Int.not_le] at hc)))
    · exact Ops.nilN (end0 (A' := AuL ab ja jobs.length jc { r with sh := true, shn := 0 } (.slice ba brok.length bc) JG (jobs.flatMap JR.G) chunks pieces (eents ends) (ends.flatMap EN.G) BG) rfl (fun _ h => h.split)
        ⟨⟨jobs, ja, jc, JG, { r with sh := true, shn := 0 }, chunks, pieces, ends, brok, ba, bc, BG⟩, rfl, ⟨oj, ojs, oe, ob, few, Int.le_refl _, (by decide : (0 : Int) ≤ 8)⟩, rfl, by simp, rfl, rfl, rfl, rfl⟩)
    · simp [hz.1, hz.2] at hc
  · rw [show upF s.pure e = (s.pure, []) from if_neg hz]
    obtain ⟨jobs, ja, jc, JG, r, chunks, pieces, ends, brok, ba, bc, BG⟩ := s
    obtain ⟨oj, ojs, oe, ob, few, s0, s1⟩ := h
    dsimp only [ActR, AuB, SA.pure] at *
    refine Con.intro (vs := [_, _]) Try.func29 rfl Try.ntmps29 rfl (fun B => ?_)
    repeat' (first | refine Cd.seq ?_ | refine Cd.reg ?_ | refine Ops.nil ?_ | refine Ops.mv rfl rfl rfl rfl ?_ | refine Ops.nilP rfl rfl rfl rfl ?_ | refine Ops.fa0 rfl rfl rfl rfl ?_ | refine Ops.ldN rfl rfl rfl rfl ?_ | refine Ops.bin rfl rfl rfl rfl rfl ?_ | refine Ops.bld rfl rfl rfl rfl ?_ | refine Ops.box rfl rfl rfl rfl (noPd rfl) (fun b => ?_) | refine Ops.st1 rfl rfl rfl rfl rfl (noPd rfl) ?_ | (refine Cd.cond rfl (fun hc => ?_) (fun hc => ?_) <;> (try simp only [decide_eq_true_eq, decide_eq_false_iff_not, Bool.not_eq_true', Bool.not_eq_false', Bool.not_eq_eq_eq_not, Bool.not_true, Bool.not_false, Int.not_lt, Int.not_le] at hc)))
    · exact absurd (by simpa using hc) hz
    · exact Cd.skip (end0 (A' := AuL ab ja jobs.length jc r (.slice ba brok.length bc) JG (jobs.flatMap JR.G) chunks pieces (eents ends) (ends.flatMap EN.G) BG) rfl (fun _ h => h.split)
        ⟨⟨jobs, ja, jc, JG, r, chunks, pieces, ends, brok, ba, bc, BG⟩, rfl, ⟨oj, ojs, oe, ob, few, s0, s1⟩, rfl, by simp, rfl, rfl, rfl, rfl⟩)
end Go.Proofs.Ytfghnepmbgbnoaa
